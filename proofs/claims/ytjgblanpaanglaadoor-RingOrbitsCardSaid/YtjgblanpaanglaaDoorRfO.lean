/- The contract of edenref06.Orbit for all arguments. -/
import Derived.Test.YtjgblanpaanglaaDoorRngX
import Derived.Test.YtjgblanpaanglaaDoorRfB
import Derived.Deep.RegionHeld3
import Derived.Deep.Cut
import Derived.Deep.QuietTactic
import Derived.BigQuiet
namespace Go.Proofs.YtjgblanpaanglaaDoor
open Go.RowKit
set_option linter.unusedVariables false
set_option maxRecDepth 100000

def OrbWC (W : World) (v : Nat × Nat) (x : ErrD) (e : Ending) (w' : World) : Prop := ∃ N a1 n1 c1 a2 n2 c2, e = .returned (.tuple #[.int .i64 (v.1 : Nat), .int .i64 (v.2 : Nat), .agg #[.int .i64 N, .slice a1 n1 c1, .slice a2 n2 c2]]) ∧ WC w' (.agg #[.int .i64 N, .slice a1 n1 c1, .slice a2 n2 c2]) x ∧ Below W.heap.size W w'
theorem ints_dec (a1 a2 : Option Addr) (n1 n2 c1 c2 : Nat) (l1 l2 : List Int) (b : Bool) (W : World) (hR1 : RK .i64 W a1 n1 l1) (hR2 : RK .i64 W a2 n2 l2) (hm1 : n1 ≤ maxLen) (hm2 : n2 ≤ maxLen) (hb : decide (l1 = l2) = b) :
    Calls Tryd.prog 12 #[.slice a1 n1 c1, .slice a2 n2 c2] W fun e w' => e = .returned (.bool b) ∧ Below W.heap.size W w' := by
  subst hb
  refine (ints_any a1 a2 n1 n2 c1 c2 l1 l2 W hR1 hR2 hm1 hm2).mono ?_
  rintro e w' ⟨rfl, m, rfl⟩
  exact ⟨rfl, bdrewN (bnil W) m⟩
set_option maxHeartbeats 32000000 in
theorem reforbit_any (k r : Int) (a : Option Addr) (n c : Nat) (l : List Int) (aw : Option Addr) (nw cw : Nat) (wl : List Int) (W : World) (hR : RK .i64 W a n l) (hm : n ≤ maxLen) (hW : SlI W aw nw cw wl) :
    Calls Tryd.prog 23 #[ruleV k r a n c, .slice aw nw cw] W (OrbWC W (orbV k r l wl) (orbD k r l wl)) := by
  have HNL := Lib.hid hW.rk.len
  have T0 := Tk.nil W
  have T1 := T0.add (fun wv => Below W.heap.size W wv) (bnil W)
  clear T0
  have T2 := T1.add (fun wv => RK .i64 wv a n l) (hR)
  clear T1
  have T3 := T2.add (fun wv => SlI wv aw nw cw wl) (hW)
  clear T2
  have hmw := hW.nm
  have h8w := hW.n8
  clear hR hW
  obtain ⟨Wb, hWb⟩ : ∃ Wb, (W.alloc (.cells #[.int .i64 k, .int .i64 r, .slice a n c] 24)).alloc (.cells #[.int .i64 0, .slice none 0 0, .slice none 0 0] 43) = Wb := ⟨_, rfl⟩
  have hbWb : Below W.heap.size W Wb := by rw [← hWb]; exact balloc (balloc (bnil W) _) _
  have T4 := T3.up hbWb
  clear T3
  have T5 := T4.add (fun wv => wv.cell? ⟨W.heap.size, 0, none⟩ = some (.int .i64 k) ∧ wv.cell? ⟨W.heap.size, 1, none⟩ = some (.int .i64 r) ∧ wv.cell? ⟨W.heap.size, 2, none⟩ = some (.slice a n c)) (by rw [← hWb]; exact ⟨al000 (cnw (by simp) rfl), al000 (cnw (by simp) rfl), al000 (cnw (by simp) rfl)⟩)
  clear T4
  have HWb := Lib.hid hWb
  clear hWb hbWb
  have hz : Wb.heap[W.heap.size + 1]? = some (.cells #[.int .i64 0, .slice none 0 0, .slice none 0 0] 43) := by
    rw [← HWb.out]
    have := heap_alloc_new (W.alloc (.cells #[.int .i64 k, .int .i64 r, .slice a n c] 24)) (.cells #[.int .i64 0, .slice none 0 0, .slice none 0 0] 43)
    simpa using this
  have hsz : W.heap.size + 1 + 1 = Wb.heap.size := by rw [← HWb.out]; simp
  have T6 := T5.add (fun wv => wv.heap[W.heap.size + 1]? = some (.cells #[.int .i64 0, .slice none 0 0, .slice none 0 0] 43)) (hz)
  clear T5
  have HSZ := Lib.hid hsz
  clear hz hsz
  go_enter Tryd.func23, Tryd.ntmps23
  have v_p0 : ((W.alloc (.cells #[.int .i64 k, .int .i64 r, .slice a n c] 24)).alloc (.cells #[.int .i64 0, .slice none 0 0, .slice none 0 0] 43)).cell? ⟨W.heap.size, 0, none⟩ = some (.int .i64 k) := by rw [HWb.out]; exact T6.out.1.2.1
  have v_p1 : ((W.alloc (.cells #[.int .i64 k, .int .i64 r, .slice a n c] 24)).alloc (.cells #[.int .i64 0, .slice none 0 0, .slice none 0 0] 43)).cell? ⟨W.heap.size, 1, none⟩ = some (.int .i64 r) := by rw [HWb.out]; exact T6.out.1.2.2.1
  have v_p2 : ((W.alloc (.cells #[.int .i64 k, .int .i64 r, .slice a n c] 24)).alloc (.cells #[.int .i64 0, .slice none 0 0, .slice none 0 0] 43)).cell? ⟨W.heap.size, 2, none⟩ = some (.slice a n c) := by rw [HWb.out]; exact T6.out.1.2.2.2
  go_wp2_with fail
  rw [HWb.out]
  refine (reffault_any k r a n c l aw nw cw wl Wb T6.out.1.1.1.2 hm (T6.out.1.1.2).rk hmw).mono ?_; rintro e w1 ⟨N, a1, n1, c1, a2, n2, c2, rfl, hw, f1, f2, hN, h0, hbw1⟩
  clear v_p0 v_p1 v_p2
  have T7 := T6.up hbw1
  clear T6
  have hs1 := hbw1.size
  have T8 := T7.add (fun wv => WC wv (.agg #[.int .i64 N, .slice a1 n1 c1, .slice a2 n2 c2]) (ringD k r l wl)) (hw)
  clear T7
  have HF : Hid (Fr (W.heap.size + 1 + 1) a1 ∧ Fr (W.heap.size + 1 + 1) a2) := ⟨f1.base (by rw [HSZ.out]; exact Nat.le_refl _), f2.base (by rw [HSZ.out]; exact Nat.le_refl _)⟩
  have H0 := Lib.hid h0
  have hN1 := hN
  clear hw f1 f2 hN h0
  obtain ⟨we, hwe⟩ : ∃ we, w1.alloc (.cells #[.int .i64 N, .slice a1 n1 c1, .slice a2 n2 c2] 43) = we := ⟨_, rfl⟩
  have hbwe : Below w1.heap.size w1 we := by rw [← hwe]; exact balloc (bnil w1) _
  have T9 := T8.up hbwe
  clear T8
  have T10 := T9.add (fun wv => wv.cell? ⟨w1.heap.size, 0, none⟩ = some (.int .i64 N) ∧ wv.cell? ⟨w1.heap.size, 1, none⟩ = some (.slice a1 n1 c1) ∧ wv.cell? ⟨w1.heap.size, 2, none⟩ = some (.slice a2 n2 c2)) (by rw [← hwe]; exact ⟨cnw (by simp) rfl, cnw (by simp) rfl, cnw (by simp) rfl⟩)
  clear T9
  have Hwe := Lib.hid hwe
  clear hwe hbwe
  cases hd : ringD k r l wl with
  | some x =>
    have hnt : (N != 0) = true := by rw [hN1, hd]; rfl
    have HOV : Hid (orbV k r l wl = (0, 0) ∧ orbD k r l wl = some x) := ⟨orbV_err (orbD_ring hd), orbD_ring hd⟩
    have HD := Lib.hid hd
    clear hd hN1
    have v_e0 : (w1.alloc (.cells #[.int .i64 N, .slice a1 n1 c1, .slice a2 n2 c2] 43)).cell? ⟨w1.heap.size, 0, none⟩ = some (.int .i64 N) := by rw [Hwe.out]; exact T10.out.2.1
    have v_e1 : (w1.alloc (.cells #[.int .i64 N, .slice a1 n1 c1, .slice a2 n2 c2] 43)).cell? ⟨w1.heap.size, 1, none⟩ = some (.slice a1 n1 c1) := by rw [Hwe.out]; exact T10.out.2.2.1
    have v_e2 : (w1.alloc (.cells #[.int .i64 N, .slice a1 n1 c1, .slice a2 n2 c2] 43)).cell? ⟨w1.heap.size, 2, none⟩ = some (.slice a2 n2 c2) := by rw [Hwe.out]; exact T10.out.2.2.2
    go_wp2_with fail
    rw [Hwe.out]
    refine (refBadE _ _ _ we true hnt).mono ?_; rintro e w3 ⟨rfl, hbw3⟩
    clear v_e0 v_e1 v_e2
    have T11 := T10.up hbw3
    clear T10
    have v_e0 : w3.cell? ⟨w1.heap.size, 0, none⟩ = some (.int .i64 N) := T11.out.2.1
    have v_e1 : w3.cell? ⟨w1.heap.size, 1, none⟩ = some (.slice a1 n1 c1) := T11.out.2.2.1
    have v_e2 : w3.cell? ⟨w1.heap.size, 2, none⟩ = some (.slice a2 n2 c2) := T11.out.2.2.2
    have hwc3 := T11.out.1.2
    rw [HD.out] at hwc3
    have HWC3 := Lib.hid hwc3
    clear hwc3
    have sz0 := HSZ.out
    have ne1 : ¬ w1.heap.size = W.heap.size + 1 := by omega
    have ne2 : ¬ W.heap.size + 1 = w1.heap.size := by omega
    clear sz0
    obtain ⟨⟨q0, q1, q2⟩, f0, f1', f2'⟩ := p_cells (T11.out.1.1.2)
    obtain ⟨w9, e9, ⟨r0, r1, r2⟩, hk9, _, hwc, hbl⟩ := er_setR (show W.heap.size ≤ W.heap.size + 1 by omega) (T11.out.1.1.2) (T11.out.1.1.1.1.1.1.2) HF.out.1 HF.out.2 (HWC3.out)
    have HE9 := Lib.hid e9
    have HR9 := Lib.hid (And.intro r0 (And.intro r1 r2))
    have HRET := Lib.hid (And.intro hwc hbl)
    clear hwc hbl e9 r0 r1 r2 hk9
    go_wp2_with fail
    go_region
    all_goals
      go_wp2
      rw [HE9.out]
      have r0 := HR9.out.1
      have r1 := HR9.out.2.1
      have r2 := HR9.out.2.2
      refine bodyPost_ret (v := .tuple #[.int .i64 0, .int .i64 0, .agg #[.int .i64 N, .slice a1 n1 c1, .slice a2 n2 c2]]) (by simp [results, Tryd.results23, go_sem, r0, r1, r2]) rfl ?_
      rw [HOV.out.1, HOV.out.2]
      first | exact ⟨_, _, _, _, _, _, _, rfl, HRET.out.1, HRET.out.2⟩ | exact ⟨_, _, _, _, _, _, _, rfl, HRET.out.1.up (Below.drew (bnil _)), HRET.out.2.drew⟩
  | none =>
    obtain ⟨kn, rn, ek, er, hI, hG⟩ := ringD_none hd
    have hnt : (N != 0) = false := by rw [hN1, hd]; rfl
    clear hN1
    have v_e0 : (w1.alloc (.cells #[.int .i64 N, .slice a1 n1 c1, .slice a2 n2 c2] 43)).cell? ⟨w1.heap.size, 0, none⟩ = some (.int .i64 N) := by rw [Hwe.out]; exact T10.out.2.1
    have v_e1 : (w1.alloc (.cells #[.int .i64 N, .slice a1 n1 c1, .slice a2 n2 c2] 43)).cell? ⟨w1.heap.size, 1, none⟩ = some (.slice a1 n1 c1) := by rw [Hwe.out]; exact T10.out.2.2.1
    have v_e2 : (w1.alloc (.cells #[.int .i64 N, .slice a1 n1 c1, .slice a2 n2 c2] 43)).cell? ⟨w1.heap.size, 2, none⟩ = some (.slice a2 n2 c2) := by rw [Hwe.out]; exact T10.out.2.2.2
    go_wp2_with fail
    rw [Hwe.out]
    refine (refBadE _ _ _ we false hnt).mono ?_; rintro e w3 ⟨rfl, hbw3⟩
    clear v_e0 v_e1 v_e2
    have T11 := T10.up hbw3
    clear T10
    have HRU := Lib.hid hI
    have HRG := Lib.hid hG
    clear hI hG hnt
    subst ek er
    have HDN := Lib.hid hd
    clear hd H0
    by_cases h64 : (64 : Int) < (nw : Int)
    · skip
      have HL64 : Hid (64 < wl.length) := by show _ < _; rw [← HNL.out]; omega
      have HOV : Hid (orbV (kn : Int) (rn : Int) l wl = (0, 0) ∧ orbD (kn : Int) (rn : Int) l wl = some ([(opRing, 0)], 4)) := by
        have ho : orbD (kn : Int) (rn : Int) l wl = some ([(opRing, 0)], 4) := orbD_big HDN.out HL64.out
        exact ⟨orbV_err ho, ho⟩
      have sb0 : W.heap.size + 1 + 1 ≤ w3.heap.size := heap_ltT (T11.out.1.1.2)
      go_wp2_with fail
      refine (rawNew_ret _ _ _ _ (by rfl)).mono ?_; rintro e w8 ⟨M, b1, m1, d1, b2, m2, d2, rfl, hwn, g1, g2, hM, _, hbw8⟩
      have T12 := T11.up hbw8
      clear T11
      have HWN := Lib.hid hwn
      have HG := Lib.hid (And.intro (g1.base sb0) (g2.base sb0))
      clear hwn g1 g2
      obtain ⟨⟨q0, q1, q2⟩, f0, f1', f2'⟩ := p_cells (T12.out.1.1.2)
      obtain ⟨w9, e9, ⟨r0, r1, r2⟩, hk9, _, hwc, hbl⟩ := er_setR (show W.heap.size ≤ W.heap.size + 1 by omega) (T12.out.1.1.2) (T12.out.1.1.1.1.1.1.2) HG.out.1 HG.out.2 (HWN.out)
      have HE9 := Lib.hid e9
      have HR9 := Lib.hid (And.intro r0 (And.intro r1 r2))
      have HRET := Lib.hid (And.intro hwc hbl)
      clear hwc hbl e9 r0 r1 r2 hk9
      go_wp2
      rw [HE9.out]
      have r0 := HR9.out.1
      have r1 := HR9.out.2.1
      have r2 := HR9.out.2.2
      refine bodyPost_ret (v := .tuple #[.int .i64 0, .int .i64 0, .agg #[.int .i64 M, .slice b1 m1 d1, .slice b2 m2 d2]]) (by simp [results, Tryd.results23, go_sem, r0, r1, r2]) rfl ?_
      rw [HOV.out.1, HOV.out.2]
      first | exact ⟨_, _, _, _, _, _, _, rfl, HRET.out.1, HRET.out.2⟩ | exact ⟨_, _, _, _, _, _, _, rfl, HRET.out.1.up (Below.drew (bnil _)), HRET.out.2.drew⟩
    have HL64 : Hid (¬ 64 < wl.length) := by show ¬ _; rw [← HNL.out]; omega
    have HST : Hid (Steps (fun i => itR kn rn l i wl)) := itR_steps kn rn l wl
    have hmq : nw ≤ maxLen := hmw
    have v_p0 : w3.cell? ⟨W.heap.size, 0, none⟩ = some (.int .i64 kn) := T11.out.1.1.1.2.1
    have v_p1 : w3.cell? ⟨W.heap.size, 1, none⟩ = some (.int .i64 rn) := T11.out.1.1.1.2.2.1
    have v_p2 : w3.cell? ⟨W.heap.size, 2, none⟩ = some (.slice a n c) := T11.out.1.1.1.2.2.2
    go_wp2_with fail
    refine (refimage_ok kn rn a n c l aw nw cw (wl) w3 T11.out.1.1.1.1.1.2 (T11.out.1.1.1.1.2).rk HRU.out HRG.out).mono ?_; rintro e w4 ⟨a5, c5, rfl, ho5, hbw4⟩
    clear v_p0 v_p1 v_p2
    have T12 := T11.up hbw4
    clear T11
    have hr5 : RK .i64 w4 a5 nw (itR kn rn l (1) wl) := ho5.rk
    have T13 := T12.add (fun wv => RK .i64 wv a5 nw (itR kn rn l (1) wl)) (hr5)
    clear T12
    clear ho5 hr5
    have v_p0 : w4.cell? ⟨W.heap.size, 0, none⟩ = some (.int .i64 kn) := T13.out.1.1.1.1.2.1
    have v_p1 : w4.cell? ⟨W.heap.size, 1, none⟩ = some (.int .i64 rn) := T13.out.1.1.1.1.2.2.1
    have v_p2 : w4.cell? ⟨W.heap.size, 2, none⟩ = some (.slice a n c) := T13.out.1.1.1.1.2.2.2
    go_wp2_with fail
    refine (refimage_ok kn rn a n c l a5 nw c5 (itR kn rn l (1) wl) w4 T13.out.1.1.1.1.1.1.2 T13.out.2 HRU.out (itR_ring HRU.out HRG.out (1))).mono ?_; rintro e w5 ⟨a6, c6, rfl, ho6, hbw5⟩
    clear v_p0 v_p1 v_p2
    have T14 := T13.up hbw5
    clear T13
    have HR6 : Hid (RK .i64 w5 a6 nw (itR kn rn l (2) wl)) := ho6.rk
    have HR5 := Lib.hid (T14.out.2)
    clear ho6
    go_wp2_with fail
    go_loopw [8, 9, 10] (fun sx fx nx wr => ∃ (q : Nat) (sa sf : Option Addr) (sca scf : Nat), 1 ≤ q ∧ q ≤ 4097 ∧ nx = .int .i64 q ∧ sx = .slice sa nw sca ∧ fx = .slice sf nw scf ∧ RK .i64 wr sa nw (itR kn rn l (q) wl) ∧ RK .i64 wr sf nw (itR kn rn l (2 * q) wl) ∧ (∀ i, 1 ≤ i → i < q → itR kn rn l (i) wl ≠ itR kn rn l (2 * i) wl) ∧ Below w5.heap.size w5 wr) (fun _ _ nx _ => 4097 - (intOf nx).toNat)
    case atStart => exact ⟨1, a5, a6, c5, c6, by omega, by omega, rfl, rfl, rfl, HR5.out, HR6.out, (fun i h1 h2 => by omega), bnil _⟩
    case round =>
      obtain ⟨q, sa, sf, sca, scf, hq1, hq2, rfl, rfl, rfl, hrs, hrf, hno, hb⟩ := hrel
      have HB5 := Lib.hid hb
      have HNO := Lib.hid hno
      clear hno
      have T15 := T14.up hb
      clear T14
      have T16 := T15.add (fun wv => RK .i64 wv sa nw (itR kn rn l (q) wl)) (hrs)
      clear T15
      have T17 := T16.add (fun wv => RK .i64 wv sf nw (itR kn rn l (2 * q) wl)) (hrf)
      clear T16
      clear hrs hrf hb
      generalize wr = wq at *
      by_cases he : itR kn rn l (q) wl = itR kn rn l (2 * q) wl
      · skip
        have HE := Lib.hid he
        have hde := decide_eq_true he
        clear he
        go_wp2_with fail
        refine (ints_dec sa sf nw nw sca scf (itR kn rn l (q) wl) (itR kn rn l (2 * q) wl) true wq T17.out.1.2 T17.out.2 hmq hmq hde).mono ?_; rintro e w6 ⟨rfl, hbw6⟩
        have T18 := T17.up hbw6
        clear T17
        clear hde HNO hbw6 HB5
        go_wp2_with fail
        refine (copy_any aw nw cw wl w6 (T18.out.1.1.1.1.1.1.1.2).rk (T18.out.1.1.1.1.1.1.1.2).n8 (T18.out.1.1.1.1.1.1.1.2).nn).mono ?_; rintro e w7 ⟨ac, cc, rfl, hoc, hbw7⟩
        have T19 := T18.up hbw7
        clear T18
        have HRC : Hid (RK .i64 w7 ac nw (itR kn rn l (0) wl)) := RK.of_own hoc
        have HRF := Lib.hid (T19.out.2)
        clear hoc hbw7
        go_wp2_with fail
        go_loopw [8, 9, 11] (fun sx fx nx wr => ∃ (i : Nat) (ai ag : Option Addr) (ci cg : Nat), i ≤ q ∧ nx = .int .i64 i ∧ sx = .slice ai nw ci ∧ fx = .slice ag nw cg ∧ RK .i64 wr ai nw (itR kn rn l (i) wl) ∧ RK .i64 wr ag nw (itR kn rn l (2 * q + i) wl) ∧ (∀ j, j < i → itR kn rn l (j) wl ≠ itR kn rn l (2 * q + j) wl) ∧ Below w7.heap.size w7 wr) (fun _ _ nx _ => q - (intOf nx).toNat)
        case atStart => exact ⟨0, ac, sf, cc, scf, by omega, rfl, rfl, rfl, HRC.out, HRF.out, (fun j h => by omega), bnil _⟩
        case round =>
          obtain ⟨i, ai, ag, ci, cg, hiq, rfl, rfl, rfl, hrs, hrf, hno, hb⟩ := hrel
          have HB7 := Lib.hid hb
          have HNO := Lib.hid hno
          clear hno
          have T20 := T19.up hb
          clear T19
          have T21 := T20.add (fun wv => RK .i64 wv ai nw (itR kn rn l (i) wl)) (hrs)
          clear T20
          have T22 := T21.add (fun wv => RK .i64 wv ag nw (itR kn rn l (2 * q + i) wl)) (hrf)
          clear T21
          clear hrs hrf hb
          generalize wr = wi at *
          by_cases he : itR kn rn l (i) wl = itR kn rn l (2 * q + i) wl
          · skip
            have HE2 := Lib.hid he
            have hde := decide_eq_true he
            clear he
            go_wp2_with fail
            refine (ints_dec ai ag nw nw ci cg (itR kn rn l (i) wl) (itR kn rn l (2 * q + i) wl) true wi T22.out.1.2 T22.out.2 hmq hmq hde).mono ?_; rintro e x6 ⟨rfl, hbx6⟩
            have T23 := T22.up hbx6
            clear T22
            clear hde hbx6 HB7
            have v_p0 : x6.cell? ⟨W.heap.size, 0, none⟩ = some (.int .i64 kn) := T23.out.1.1.1.1.1.1.1.1.2.1
            have v_p1 : x6.cell? ⟨W.heap.size, 1, none⟩ = some (.int .i64 rn) := T23.out.1.1.1.1.1.1.1.1.2.2.1
            have v_p2 : x6.cell? ⟨W.heap.size, 2, none⟩ = some (.slice a n c) := T23.out.1.1.1.1.1.1.1.1.2.2.2
            go_wp2_with fail
            refine (refimage_ok kn rn a n c l ai nw ci (itR kn rn l (i) wl) x6 T23.out.1.1.1.1.1.1.1.1.1.1.2 T23.out.1.2 HRU.out (itR_ring HRU.out HRG.out (i))).mono ?_; rintro e x7 ⟨b7, d7, rfl, ho7, hbx7⟩
            clear v_p0 v_p1 v_p2
            have T24 := T23.up hbx7
            clear T23
            have HR7 : Hid (RK .i64 x7 b7 nw (itR kn rn l (i + 1) wl)) := ho7.rk
            clear ho7 hbx7
            go_wp2_with fail
            go_loopw [9, 12] (fun fx nx wr => ∃ (s : Nat) (ag : Option Addr) (cg : Nat), 1 ≤ s ∧ s ≤ q ∧ nx = .int .i64 s ∧ fx = .slice ag nw cg ∧ RK .i64 wr ag nw (itR kn rn l (i + s) wl) ∧ (∀ j, 1 ≤ j → j < s → itR kn rn l (i) wl ≠ itR kn rn l (i + j) wl) ∧ Below x7.heap.size x7 wr) (fun _ nx _ => q - (intOf nx).toNat)
            case atStart => exact ⟨1, b7, d7, by omega, by omega, rfl, rfl, HR7.out, (fun j h1 h2 => by omega), bnil _⟩
            case round =>
              obtain ⟨s, ah, ch, hs0, hsq, rfl, rfl, hrf, hno, hb⟩ := hrel
              have HB8 := Lib.hid hb
              have HNO2 := Lib.hid hno
              clear hno
              have T25 := T24.up hb
              clear T24
              have T26 := T25.add (fun wv => RK .i64 wv ah nw (itR kn rn l (i + s) wl)) (hrf)
              clear T25
              clear hrf hb
              generalize wr = wj at *
              by_cases he : itR kn rn l (i) wl = itR kn rn l (i + s) wl
              · skip
                have HE3 := Lib.hid he
                have hde := decide_eq_true he
                clear he
                have HFR : Hid (FirstRep (fun i => itR kn rn l i wl) i s) := walkers_end HST.out HE.out hq1 HE2.out HNO.out hs0 HE3.out HNO2.out
                have yw : IntKind.i64.wrap ((i : Int) + (s : Int)) = (i : Int) + (s : Int) := IntWalk.i64_in _ (by omega)
                go_wp2_with fail
                refine (ints_dec ai ah nw nw ci ch (itR kn rn l (i) wl) (itR kn rn l (i + s) wl) true wj T26.out.1.1.2 T26.out.2 hmq hmq hde).mono ?_; rintro e y6 ⟨rfl, hby6⟩
                have T27 := T26.up hby6
                clear T26
                clear hde hby6
                by_cases hbig : (4096 : Int) < (i : Int) + (s : Int)
                · skip
                  have HOV : Hid (orbV (kn : Int) (rn : Int) l wl = (0, 0) ∧ orbD (kn : Int) (rn : Int) l wl = some ([(opRing, 1)], 4)) := by
                    have ho : orbD (kn : Int) (rn : Int) l wl = some ([(opRing, 1)], 4) := orbD_no HDN.out HL64.out (by
                      rintro ⟨m, p, ho1, ho2⟩
                      have := first_uniq ho2 HFR.out
                      omega)
                    exact ⟨orbV_err ho, ho⟩
                  have sb0 : W.heap.size + 1 + 1 ≤ y6.heap.size := heap_ltT (T27.out.1.1.1.1.1.1.1.1.2)
                  go_wp2_with fail
                  refine (rawNew_ret _ _ _ _ (by rfl)).mono ?_; rintro e w8 ⟨M, b1, m1, d1, b2, m2, d2, rfl, hwn, g1, g2, hM, _, hbw8⟩
                  have T28 := T27.up hbw8
                  clear T27
                  have HWN := Lib.hid hwn
                  have HG := Lib.hid (And.intro (g1.base sb0) (g2.base sb0))
                  clear hwn g1 g2
                  obtain ⟨⟨q0, q1, q2⟩, f0, f1', f2'⟩ := p_cells (T28.out.1.1.1.1.1.1.1.1.2)
                  obtain ⟨w9, e9, ⟨r0, r1, r2⟩, hk9, _, hwc, hbl⟩ := er_setR (show W.heap.size ≤ W.heap.size + 1 by omega) (T28.out.1.1.1.1.1.1.1.1.2) (T28.out.1.1.1.1.1.1.1.1.1.1.1.1.2) HG.out.1 HG.out.2 (HWN.out)
                  have HE9 := Lib.hid e9
                  have HR9 := Lib.hid (And.intro r0 (And.intro r1 r2))
                  have HRET := Lib.hid (And.intro hwc hbl)
                  clear hwc hbl e9 r0 r1 r2 hk9
                  go_wp2
                  rw [HE9.out]
                  have r0 := HR9.out.1
                  have r1 := HR9.out.2.1
                  have r2 := HR9.out.2.2
                  refine bodyPost_ret (v := .tuple #[.int .i64 0, .int .i64 0, .agg #[.int .i64 M, .slice b1 m1 d1, .slice b2 m2 d2]]) (by simp [results, Tryd.results23, go_sem, r0, r1, r2]) rfl ?_
                  rw [HOV.out.1, HOV.out.2]
                  first | exact ⟨_, _, _, _, _, _, _, rfl, HRET.out.1, HRET.out.2⟩ | exact ⟨_, _, _, _, _, _, _, rfl, HRET.out.1.up (Below.drew (bnil _)), HRET.out.2.drew⟩
                have HOV : Hid (orbV (kn : Int) (rn : Int) l wl = (i, s) ∧ orbD (kn : Int) (rn : Int) l wl = none) := by
                  have ho := orbD_is HDN.out HL64.out (m := i) (p := s) ⟨by omega, HFR.out⟩
                  exact ⟨ho.2, ho.1⟩
                obtain ⟨⟨q0, q1, q2⟩, f0, f1', f2'⟩ := p_cells (T27.out.1.1.1.1.1.1.1.1.2)
                obtain ⟨w9, e9, ⟨r0, r1, r2⟩, hk9, _, hwc, hbl⟩ := er_setR (show W.heap.size ≤ W.heap.size + 1 by omega) (T27.out.1.1.1.1.1.1.1.1.2) (T27.out.1.1.1.1.1.1.1.1.1.1.1.1.2) fr_none fr_none (wc_none _)
                have HE9 := Lib.hid e9
                have HR9 := Lib.hid (And.intro r0 (And.intro r1 r2))
                have HRET := Lib.hid (And.intro hwc hbl)
                clear hwc hbl e9 r0 r1 r2 hk9
                go_wp2
                rw [HE9.out]
                have r0 := HR9.out.1
                have r1 := HR9.out.2.1
                have r2 := HR9.out.2.2
                refine bodyPost_ret (v := .tuple #[.int .i64 (i : Nat), .int .i64 (s : Nat), .agg #[.int .i64 0, .slice none 0 0, .slice none 0 0]]) (by simp [results, Tryd.results23, go_sem, r0, r1, r2]) rfl ?_
                rw [HOV.out.1, HOV.out.2]
                first | exact ⟨_, _, _, _, _, _, _, rfl, HRET.out.1, HRET.out.2⟩ | exact ⟨_, _, _, _, _, _, _, rfl, HRET.out.1.up (Below.drew (bnil _)), HRET.out.2.drew⟩
              · skip
                have hlt : s < q := by
                  rcases Nat.lt_or_ge s q with h1 | h1
                  · exact h1
                  · obtain rfl : s = q := by omega
                    exact absurd (walkers_round HST.out HE.out HE2.out) he
                have HE3 := Lib.hid he
                have hde := decide_eq_false he
                clear he
                go_wp2_with fail
                refine (ints_dec ai ah nw nw ci ch (itR kn rn l (i) wl) (itR kn rn l (i + s) wl) false wj T26.out.1.1.2 T26.out.2 hmq hmq hde).mono ?_; rintro e y6 ⟨rfl, hby6⟩
                have T27 := T26.up hby6
                clear T26
                clear hde
                have v_p0 : y6.cell? ⟨W.heap.size, 0, none⟩ = some (.int .i64 kn) := T27.out.1.1.1.1.1.1.1.1.1.2.1
                have v_p1 : y6.cell? ⟨W.heap.size, 1, none⟩ = some (.int .i64 rn) := T27.out.1.1.1.1.1.1.1.1.1.2.2.1
                have v_p2 : y6.cell? ⟨W.heap.size, 2, none⟩ = some (.slice a n c) := T27.out.1.1.1.1.1.1.1.1.1.2.2.2
                go_wp2_with fail
                refine (refimage_ok kn rn a n c l ah nw ch (itR kn rn l (i + s) wl) y6 T27.out.1.1.1.1.1.1.1.1.1.1.1.2 T27.out.2 HRU.out (itR_ring HRU.out HRG.out (i + s))).mono ?_; rintro e y8 ⟨b8, d8, rfl, ho8, hby8⟩
                clear v_p0 v_p1 v_p2
                have T28 := T27.up hby8
                clear T27
                have HR8 : Hid (RK .i64 y8 b8 nw (itR kn rn l (i + (s + 1)) wl)) := ho8.rk
                have HBX : Hid (Below x7.heap.size x7 y8) := bstep (bstep HB8.out hby6) hby8
                clear ho8 hby6 hby8
                go_wp2
                go_roundw
                case rel => exact ⟨s + 1, b8, d8, by omega, by omega, by go_num, rfl, HR8.out, (fun j h1 h2 => by
                  by_cases h3 : j = s
                  · rw [h3]; exact HE3.out
                  · exact HNO2.out j h1 (by omega)), HBX.out⟩
                case measure => simp [intOf]; omega
          · skip
            have hlt : i < q := by
              rcases Nat.lt_or_ge i q with h1 | h1
              · exact h1
              · obtain rfl : i = q := by omega
                exact absurd (walkers_at HST.out HE.out) he
            have HE2 := Lib.hid he
            have hde := decide_eq_false he
            clear he
            go_wp2_with fail
            refine (ints_dec ai ag nw nw ci cg (itR kn rn l (i) wl) (itR kn rn l (2 * q + i) wl) false wi T22.out.1.2 T22.out.2 hmq hmq hde).mono ?_; rintro e x6 ⟨rfl, hbx6⟩
            have T23 := T22.up hbx6
            clear T22
            clear hde
            have v_p0 : x6.cell? ⟨W.heap.size, 0, none⟩ = some (.int .i64 kn) := T23.out.1.1.1.1.1.1.1.1.2.1
            have v_p1 : x6.cell? ⟨W.heap.size, 1, none⟩ = some (.int .i64 rn) := T23.out.1.1.1.1.1.1.1.1.2.2.1
            have v_p2 : x6.cell? ⟨W.heap.size, 2, none⟩ = some (.slice a n c) := T23.out.1.1.1.1.1.1.1.1.2.2.2
            go_wp2_with fail
            refine (refimage_ok kn rn a n c l ai nw ci (itR kn rn l (i) wl) x6 T23.out.1.1.1.1.1.1.1.1.1.1.2 T23.out.1.2 HRU.out (itR_ring HRU.out HRG.out (i))).mono ?_; rintro e x7 ⟨b7, d7, rfl, ho7, hbx7⟩
            clear v_p0 v_p1 v_p2
            have T24 := T23.up hbx7
            clear T23
            have hr7 : RK .i64 x7 b7 nw (itR kn rn l (i + 1) wl) := ho7.rk
            have T25 := T24.add (fun wv => RK .i64 wv b7 nw (itR kn rn l (i + 1) wl)) (hr7)
            clear T24
            clear ho7 hr7
            have v_p0 : x7.cell? ⟨W.heap.size, 0, none⟩ = some (.int .i64 kn) := T25.out.1.1.1.1.1.1.1.1.1.2.1
            have v_p1 : x7.cell? ⟨W.heap.size, 1, none⟩ = some (.int .i64 rn) := T25.out.1.1.1.1.1.1.1.1.1.2.2.1
            have v_p2 : x7.cell? ⟨W.heap.size, 2, none⟩ = some (.slice a n c) := T25.out.1.1.1.1.1.1.1.1.1.2.2.2
            go_wp2_with fail
            refine (refimage_ok kn rn a n c l ag nw cg (itR kn rn l (2 * q + i) wl) x7 T25.out.1.1.1.1.1.1.1.1.1.1.1.2 T25.out.1.2 HRU.out (itR_ring HRU.out HRG.out (2 * q + i))).mono ?_; rintro e x8 ⟨b8, d8, rfl, ho8, hbx8⟩
            clear v_p0 v_p1 v_p2
            have T26 := T25.up hbx8
            clear T25
            have HR8 : Hid (RK .i64 x8 b8 nw (itR kn rn l (2 * q + (i + 1)) wl)) := ho8.rk
            have HS8 := Lib.hid (T26.out.2)
            have HBX : Hid (Below w7.heap.size w7 x8) := bstep (bstep (bstep HB7.out hbx6) hbx7) hbx8
            clear ho8 hbx6 hbx7 hbx8
            go_wp2
            go_roundw
            case rel => exact ⟨i + 1, b7, b8, d7, d8, by omega, by go_num, rfl, rfl, HS8.out, HR8.out, (fun j h => by
              by_cases h3 : j = i
              · rw [h3]; exact HE2.out
              · exact HNO.out j (by omega)), HBX.out⟩
            case measure => simp [intOf]; omega
      · skip
        have HE := Lib.hid he
        have hde := decide_eq_false he
        clear he
        go_wp2_with fail
        refine (ints_dec sa sf nw nw sca scf (itR kn rn l (q) wl) (itR kn rn l (2 * q) wl) false wq T17.out.1.2 T17.out.2 hmq hmq hde).mono ?_; rintro e w6 ⟨rfl, hbw6⟩
        have T18 := T17.up hbw6
        clear T17
        clear hde
        by_cases hq3 : (4096 : Int) < (q : Int)
        · skip
          have hall : ∀ i, 1 ≤ i → i ≤ 4097 → itR kn rn l (i) wl ≠ itR kn rn l (2 * i) wl := fun i h1 h2 => by
            by_cases h3 : i = q
            · rw [h3]; exact HE.out
            · exact HNO.out i h1 (by omega)
          have HALL := Lib.hid hall
          clear hall
          have HOV : Hid (orbV (kn : Int) (rn : Int) l wl = (0, 0) ∧ orbD (kn : Int) (rn : Int) l wl = some ([(opRing, 1)], 4)) := by
            have ho : orbD (kn : Int) (rn : Int) l wl = some ([(opRing, 1)], 4) := orbD_no HDN.out HL64.out (by
              rintro ⟨m, p, ho1, ho2, ho3, _⟩
              exact walkers_no HST.out HALL.out m (m + p) (by omega) (by omega) ho3.symm)
            exact ⟨orbV_err ho, ho⟩
          have sb0 : W.heap.size + 1 + 1 ≤ w6.heap.size := heap_ltT (T18.out.1.1.1.1.1.2)
          go_wp2_with fail
          refine (rawNew_ret _ _ _ _ (by rfl)).mono ?_; rintro e w8 ⟨M, b1, m1, d1, b2, m2, d2, rfl, hwn, g1, g2, hM, _, hbw8⟩
          have T19 := T18.up hbw8
          clear T18
          have HWN := Lib.hid hwn
          have HG := Lib.hid (And.intro (g1.base sb0) (g2.base sb0))
          clear hwn g1 g2
          obtain ⟨⟨q0, q1, q2⟩, f0, f1', f2'⟩ := p_cells (T19.out.1.1.1.1.1.2)
          obtain ⟨w9, e9, ⟨r0, r1, r2⟩, hk9, _, hwc, hbl⟩ := er_setR (show W.heap.size ≤ W.heap.size + 1 by omega) (T19.out.1.1.1.1.1.2) (T19.out.1.1.1.1.1.1.1.1.1.2) HG.out.1 HG.out.2 (HWN.out)
          have HE9 := Lib.hid e9
          have HR9 := Lib.hid (And.intro r0 (And.intro r1 r2))
          have HRET := Lib.hid (And.intro hwc hbl)
          clear hwc hbl e9 r0 r1 r2 hk9
          go_wp2
          rw [HE9.out]
          have r0 := HR9.out.1
          have r1 := HR9.out.2.1
          have r2 := HR9.out.2.2
          refine bodyPost_ret (v := .tuple #[.int .i64 0, .int .i64 0, .agg #[.int .i64 M, .slice b1 m1 d1, .slice b2 m2 d2]]) (by simp [results, Tryd.results23, go_sem, r0, r1, r2]) rfl ?_
          rw [HOV.out.1, HOV.out.2]
          first | exact ⟨_, _, _, _, _, _, _, rfl, HRET.out.1, HRET.out.2⟩ | exact ⟨_, _, _, _, _, _, _, rfl, HRET.out.1.up (Below.drew (bnil _)), HRET.out.2.drew⟩
        have v_p0 : w6.cell? ⟨W.heap.size, 0, none⟩ = some (.int .i64 kn) := T18.out.1.1.1.1.1.1.2.1
        have v_p1 : w6.cell? ⟨W.heap.size, 1, none⟩ = some (.int .i64 rn) := T18.out.1.1.1.1.1.1.2.2.1
        have v_p2 : w6.cell? ⟨W.heap.size, 2, none⟩ = some (.slice a n c) := T18.out.1.1.1.1.1.1.2.2.2
        go_wp2_with fail
        refine (refimage_ok kn rn a n c l sa nw sca (itR kn rn l (q) wl) w6 T18.out.1.1.1.1.1.1.1.1.2 T18.out.1.2 HRU.out (itR_ring HRU.out HRG.out (q))).mono ?_; rintro e w7 ⟨a7, c7, rfl, ho7, hbw7⟩
        clear v_p0 v_p1 v_p2
        have T19 := T18.up hbw7
        clear T18
        have hr7 : RK .i64 w7 a7 nw (itR kn rn l (q + 1) wl) := ho7.rk
        have T20 := T19.add (fun wv => RK .i64 wv a7 nw (itR kn rn l (q + 1) wl)) (hr7)
        clear T19
        clear ho7 hr7
        have HS0 : Hid (w7.drew.cell? ⟨W.heap.size, 0, none⟩ = some (.int .i64 kn) ∧ w7.drew.cell? ⟨W.heap.size, 1, none⟩ = some (.int .i64 rn) ∧ w7.drew.cell? ⟨W.heap.size, 2, none⟩ = some (.slice a n c)) := ⟨T20.out.1.1.1.1.1.1.1.2.1, T20.out.1.1.1.1.1.1.1.2.2.1, T20.out.1.1.1.1.1.1.1.2.2.2⟩
        have D0 : Hid (Below w7.heap.size w7 w7.drew) := Below.drew (bnil _)
        have HRT : Hid (RK .i64 w7 a n l) := T20.out.1.1.1.1.1.1.1.1.1.2
        have HRF : Hid (RK .i64 w7 sf nw (itR kn rn l (2 * q) wl)) := T20.out.1.2
        have HRS : Hid (RK .i64 w7 a7 nw (itR kn rn l (q + 1) wl)) := T20.out.2
        have HB7 : Hid (Below w5.heap.size w5 w7) := bstep (bstep HB5.out hbw6) hbw7
        clear hbw6 hbw7
        go_upto_region 13 with (fail)
        go_region_held3 (fun w' => w'.cell? ⟨W.heap.size, 0, none⟩ = some (.int .i64 kn) ∧ w'.cell? ⟨W.heap.size, 1, none⟩ = some (.int .i64 rn) ∧ w'.cell? ⟨W.heap.size, 2, none⟩ = some (.slice a n c))
          (first | with_reducible exact HS9.out | with_reducible exact HS8.out | with_reducible exact HS0.out | go_keep)
          (first
            | (go_at_call 48; (first
                | ((with_reducible refine (refimage_ok kn rn a n c l a8 nw c8 (itR kn rn l (2 * q + 1) wl) w8 (HRT.out.up D8.out) HR8.out HRU.out (itR_ring HRU.out HRG.out (2 * q + 1))).mono ?_); rintro e w9 ⟨a9, c9, rfl, ho9, hb9⟩; have D9 := Lib.hid (bstep D8.out hb9); have HR9 : Hid (RK .i64 w9 a9 nw (itR kn rn l (2 * q + 1 + 1) wl)) := ho9.rk; have HS9 := Lib.hid (And.intro (cpa hb9 (HS8.out).1) (And.intro (cpa hb9 (HS8.out).2.1) (cpa hb9 (HS8.out).2.2))); clear hb9 ho9)
                | ((with_reducible refine (refimage_ok kn rn a n c l sf nw scf (itR kn rn l (2 * q) wl) _ (HRT.out.up D0.out) (HRF.out.up D0.out) HRU.out (itR_ring HRU.out HRG.out (2 * q))).mono ?_); rintro e w8 ⟨a8, c8, rfl, ho8, hb8⟩; have D8 := Lib.hid (bstep D0.out hb8); have HR8 : Hid (RK .i64 w8 a8 nw (itR kn rn l (2 * q + 1) wl)) := ho8.rk; have HS8 := Lib.hid (And.intro (cpa hb8 (HS0.out).1) (And.intro (cpa hb8 (HS0.out).2.1) (cpa hb8 (HS0.out).2.2))); clear hb8 ho8))))
        all_goals
          go_wp2_with fail
          go_roundw
          case rel => exact ⟨q + 1, a7, a9, c7, c9, by omega, by omega, by go_num, rfl, rfl, HRS.out.up D9.out, by rw [show 2 * (q + 1) = 2 * q + 1 + 1 by omega]; exact HR9.out, (fun i h1 h2 => by
            by_cases h3 : i = q
            · rw [h3]; exact HE.out
            · exact HNO.out i h1 (by omega)), bstep HB7.out D9.out⟩
          case measure => simp [intOf]; omega
end Go.Proofs.YtjgblanpaanglaaDoor
