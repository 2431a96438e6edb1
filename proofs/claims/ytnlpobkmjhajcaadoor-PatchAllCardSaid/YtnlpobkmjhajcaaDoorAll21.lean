/- edenlaw21.PatchAll returns true. -/
import Derived.Test.YtnlpobkmjhajcaaDoorRefB
import Derived.Test.YtnlpobkmjhajcaaDoorPatJ
import Derived.Test.YtnlpobkmjhajcaaDoorPatL
import Derived.Test.YtnlpobkmjhajcaaDoorTrkP
import Derived.Deep.RegionHeld3
namespace Go.Proofs.YtnlpobkmjhajcaaDoor
open Go.RowKit
set_option linter.unusedVariables false
set_option maxRecDepth 100000

theorem OwI.lm {w : World} {B : Nat} {a : Option Addr} {n c : Nat} {l : List Int} (h : OwI w B a n c l) : l.length ≤ maxLen := by
  have h1 := h.rk.len
  have h2 := h.nnc
  omega
set_option maxHeartbeats 16000000 in
theorem patch_all (w h : Int) (a : Option Addr) (n c : Nat) (l : List Int) (t x y p q : Int) (W : World) (R : Nat → Addr) (hE : Env W R) (m : Int) (hm : W.cell? ⟨13, 0, none⟩ = some (.int .i64 m)) (hR : SlI W a n c l) (hx : I64 l) :
    Calls Tryd.prog 7 #[patV w h a n c, .int .i64 t, .agg #[.int .i64 x, .int .i64 y, .int .i64 p, .int .i64 q]] W (TrueBelow W) := by
  have hnm := hR.nm
  have h8 := hR.n8
  obtain ⟨o1, o2, o3, ho⟩ : ∃ o1 o2 o3, turnO w h l t = (o1, o2, o3) := ⟨_, _, _, rfl⟩
  obtain ⟨u1, u2, u3, hu⟩ : ∃ u1 u2 u3, cutO w h l x y p q = (u1, u2, u3) := ⟨_, _, _, rfl⟩
  obtain ⟨D, hD⟩ : ∃ D, patchD w h l = D := ⟨_, rfl⟩
  obtain ⟨D2, hD2⟩ : ∃ D2, cutD w h l x y p q = D2 := ⟨_, rfl⟩
  obtain ⟨TX, hTX⟩ : ∃ TX, textO w h l = TX := ⟨_, rfl⟩
  have hI6 := hx
  have c_text := fun W a c S (hR : RK .i64 W a n l) => text_any w h a n c l W R S hR hnm hI6
  have c_rtext := fun W a c (hR : RK .i64 W a n l) => reftext_any w h a n c l W hR hnm
  have c_turn := fun W a c S (hR : RK .i64 W a n l) => turn_any w h t a n c l W R S hR hnm hI6
  have c_rturn := fun W a c hR => refturn_any w h t a n c l W hR
  have c_cut := fun W a c S (hR : RK .i64 W a n l) => cut_any w h x y p q a n c l W R S hR hnm hI6
  have c_rcut := fun W a c (hR : RK .i64 W a n l) => refcutP_any w h x y p q a n c l W hR hnm
  have c_col := fun W a c S (hR : RK .i64 W a n l) => columns_any w h a n c l W R S hR hnm hI6
  have c_rcol := fun W a c (hR : RK .i64 W a n l) => refcol_any w h a n c l W hR hnm
  have c_chk := fun W a c S (hR : RK .i64 W a n l) => pcheck_any w h a n c l W R S hR hnm hI6
  have c_rchk := fun W a c (hR : RK .i64 W a n l) => refpcheck_any w h a n c l W hR hnm
  simp only [hTX, hD, ho, hu, hD2] at c_text c_rtext c_turn c_rturn c_cut c_rcut c_chk c_rchk
  obtain ⟨CO, hCO⟩ : ∃ CO, colO w h l = CO := ⟨_, rfl⟩
  obtain ⟨CD, hCD⟩ : ∃ CD, colD w h l = CD := ⟨_, rfl⟩
  simp only [hCO, hCD] at c_col c_rcol
  have HC := Lib.hid (And.intro c_text (And.intro c_rtext (And.intro c_turn (And.intro c_rturn (And.intro c_cut (And.intro c_rcut (And.intro c_col (And.intro c_rcol (And.intro c_chk c_rchk)))))))))
  clear c_text c_rtext c_turn c_rturn c_cut c_rcut c_col c_rcol c_chk c_rchk hTX hD ho hu hD2 hCO hCD hI6
  have T0 := Tk.nil W
  have T1 := T0.add (fun wv => Below W.heap.size W wv) (bnil W)
  clear T0
  have T2 := T1.add (fun wv => Env wv R) (hE)
  clear T1
  have T3 := T2.add (fun wv => wv.cell? ⟨13, 0, none⟩ = some (.int .i64 m)) (hm)
  clear T2
  have T4 := T3.add (fun wv => SlI wv a n c l) (hR)
  clear T3
  clear hE hR hm hx
  obtain ⟨Wb, hWb⟩ : ∃ Wb, (W.alloc (.cells #[.int .i64 w, .int .i64 h, .slice a n c] 24)).alloc (.cells #[.int .i64 x, .int .i64 y, .int .i64 p, .int .i64 q] 34) = Wb := ⟨_, rfl⟩
  have hbWb : Below W.heap.size W Wb := by rw [← hWb]; exact balloc (balloc (bnil W) _) _
  have T5 := T4.up hbWb
  clear T4
  have T6 := T5.add (fun wv => wv.cell? ⟨W.heap.size, 0, none⟩ = some (.int .i64 w) ∧ wv.cell? ⟨W.heap.size, 1, none⟩ = some (.int .i64 h) ∧ wv.cell? ⟨W.heap.size, 2, none⟩ = some (.slice a n c)) (by rw [← hWb]; exact ⟨al000 (cnw (by simp) rfl), al000 (cnw (by simp) rfl), al000 (cnw (by simp) rfl)⟩)
  clear T5
  have T7 := T6.add (fun wv => wv.cell? ⟨W.heap.size + 1, 0, none⟩ = some (.int .i64 x) ∧ wv.cell? ⟨W.heap.size + 1, 1, none⟩ = some (.int .i64 y) ∧ wv.cell? ⟨W.heap.size + 1, 2, none⟩ = some (.int .i64 p) ∧ wv.cell? ⟨W.heap.size + 1, 3, none⟩ = some (.int .i64 q)) (by rw [← hWb]; exact ⟨cnw (by simp) rfl, cnw (by simp) rfl, cnw (by simp) rfl, cnw (by simp) rfl⟩)
  clear T6
  have HWb := Lib.hid hWb
  clear hWb hbWb
  go_enter Tryd.func7, Tryd.ntmps7
  go_wp2_with fail
  rw [HWb.out]
  refine (awake21 Wb R (T7.out.1.1.1.1.2).sent m T7.out.1.1.1.2).mono ?_; rintro e w1 ⟨rfl, hbw1⟩
  have T8 := T7.up hbw1
  clear T7
  have v_p0 : w1.cell? ⟨W.heap.size, 0, none⟩ = some (.int .i64 w) := T8.out.1.2.1
  have v_p1 : w1.cell? ⟨W.heap.size, 1, none⟩ = some (.int .i64 h) := T8.out.1.2.2.1
  have v_p2 : w1.cell? ⟨W.heap.size, 2, none⟩ = some (.slice a n c) := T8.out.1.2.2.2
  go_wp2_with fail
  refine (lent21_any w h a n c l w1 (T8.out.1.1.2).rk h8).mono ?_; rintro e w2 ⟨gm, rfl, hlm, hbw2⟩
  clear v_p0 v_p1 v_p2
  have T9 := T8.up hbw2
  clear T8
  have T10 := T9.add (fun wv => LentM wv gm n l) (hlm)
  clear T9
  have T11 := T10.add (fun wv => RK .i64 wv (some ⟨gm, 0, none⟩) n l) ((hlm.sl h8).rk)
  clear T10
  clear hlm
  obtain ⟨wm, hwm⟩ : ∃ wm, w2.alloc (.cells #[.int .i64 w, .int .i64 h, .slice (some ⟨gm, 0, none⟩) n (n + 2)] 24) = wm := ⟨_, rfl⟩
  have hbwm : Below w2.heap.size w2 wm := by rw [← hwm]; exact balloc (bnil w2) _
  have T12 := T11.up hbwm
  clear T11
  have T13 := T12.add (fun wv => wv.cell? ⟨w2.heap.size, 0, none⟩ = some (.int .i64 w) ∧ wv.cell? ⟨w2.heap.size, 1, none⟩ = some (.int .i64 h) ∧ wv.cell? ⟨w2.heap.size, 2, none⟩ = some (.slice (some ⟨gm, 0, none⟩) n (n + 2))) (by rw [← hwm]; exact ⟨cnw (by simp) rfl, cnw (by simp) rfl, cnw (by simp) rfl⟩)
  clear T12
  have Hwm := Lib.hid hwm
  clear hwm hbwm
  have v_m0 : (w2.alloc (.cells #[.int .i64 w, .int .i64 h, .slice (some ⟨gm, 0, none⟩) n (n + 2)] 24)).cell? ⟨w2.heap.size, 0, none⟩ = some (.int .i64 w) := by rw [Hwm.out]; exact T13.out.2.1
  have v_m1 : (w2.alloc (.cells #[.int .i64 w, .int .i64 h, .slice (some ⟨gm, 0, none⟩) n (n + 2)] 24)).cell? ⟨w2.heap.size, 1, none⟩ = some (.int .i64 h) := by rw [Hwm.out]; exact T13.out.2.2.1
  have v_m2 : (w2.alloc (.cells #[.int .i64 w, .int .i64 h, .slice (some ⟨gm, 0, none⟩) n (n + 2)] 24)).cell? ⟨w2.heap.size, 2, none⟩ = some (.slice (some ⟨gm, 0, none⟩) n (n + 2)) := by rw [Hwm.out]; exact T13.out.2.2.2
  go_wp2_with fail
  rw [Hwm.out]
  refine (HC.out.1 wm (some ⟨gm, 0, none⟩) (n + 2) (T13.out.1.1.1.1.1.1.1.2).sent T13.out.1.2).mono ?_; rintro e w3 ⟨ev1, rfl, he1, hbw3⟩
  clear v_m0 v_m1 v_m2
  have T14 := T13.up hbw3
  clear T13
  have T15 := T14.add (fun wv => EC R wv ev1 D) (he1)
  clear T14
  clear he1
  have v_p0 : w3.cell? ⟨W.heap.size, 0, none⟩ = some (.int .i64 w) := T15.out.1.1.1.1.1.2.1
  have v_p1 : w3.cell? ⟨W.heap.size, 1, none⟩ = some (.int .i64 h) := T15.out.1.1.1.1.1.2.2.1
  have v_p2 : w3.cell? ⟨W.heap.size, 2, none⟩ = some (.slice a n c) := T15.out.1.1.1.1.1.2.2.2
  go_wp2_with fail
  refine (HC.out.2.1 w3 a c (T15.out.1.1.1.1.1.1.2).rk).mono ?_; rintro e w4 ⟨N1, a11, n11, c11, a12, n12, c12, rfl, hw1, hn1, hbw4⟩
  clear v_p0 v_p1 v_p2
  have T16 := T15.up hbw4
  clear T15
  have T17 := T16.add (fun wv => WC wv (.agg #[.int .i64 N1, .slice a11 n11 c11, .slice a12 n12 c12]) D) (hw1)
  clear T16
  clear hw1 hn1
  obtain ⟨w5, hw5⟩ : ∃ w5, w4.alloc (.cells #[.int .i64 N1, .slice a11 n11 c11, .slice a12 n12 c12] 47) = w5 := ⟨_, rfl⟩
  have hbw5 : Below w4.heap.size w4 w5 := by rw [← hw5]; exact balloc (bnil w4) _
  have T18 := T17.up hbw5
  clear T17
  have T19 := T18.add (fun wv => wv.cell? ⟨w4.heap.size, 0, none⟩ = some (.int .i64 N1) ∧ wv.cell? ⟨w4.heap.size, 1, none⟩ = some (.slice a11 n11 c11) ∧ wv.cell? ⟨w4.heap.size, 2, none⟩ = some (.slice a12 n12 c12)) (by rw [← hw5]; exact ⟨cnw (by simp) rfl, cnw (by simp) rfl, cnw (by simp) rfl⟩)
  clear T18
  have Hw5 := Lib.hid hw5
  clear hw5 hbw5
  have v_m0 : (w4.alloc (.cells #[.int .i64 N1, .slice a11 n11 c11, .slice a12 n12 c12] 47)).cell? ⟨w2.heap.size, 0, none⟩ = some (.int .i64 w) := by rw [Hw5.out]; exact T19.out.1.1.1.2.1
  have v_m1 : (w4.alloc (.cells #[.int .i64 N1, .slice a11 n11 c11, .slice a12 n12 c12] 47)).cell? ⟨w2.heap.size, 1, none⟩ = some (.int .i64 h) := by rw [Hw5.out]; exact T19.out.1.1.1.2.2.1
  have v_m2 : (w4.alloc (.cells #[.int .i64 N1, .slice a11 n11 c11, .slice a12 n12 c12] 47)).cell? ⟨w2.heap.size, 2, none⟩ = some (.slice (some ⟨gm, 0, none⟩) n (n + 2)) := by rw [Hw5.out]; exact T19.out.1.1.1.2.2.2
  go_wp2_with fail
  rw [Hw5.out]
  refine (HC.out.2.2.1 w5 (some ⟨gm, 0, none⟩) (n + 2) (T19.out.1.1.1.1.1.1.1.1.1.1.2).sent T19.out.1.1.1.1.2).mono ?_; rintro e w6 ⟨a2, n2, c2, ev2, rfl, ho2, he2, hbw6⟩
  clear v_m0 v_m1 v_m2
  have T20 := T19.up hbw6
  clear T19
  have T21 := T20.add (fun wv => RK .i64 wv a2 n2 o3) (ho2.rk)
  clear T20
  have T22 := T21.add (fun wv => EC R wv ev2 D) (he2)
  clear T21
  have hl2 := ho2.lm
  clear ho2 he2
  obtain ⟨w7, hw7⟩ : ∃ w7, w6.alloc (.cells #[.int .i64 o1, .int .i64 o2, .slice a2 n2 c2] 24) = w7 := ⟨_, rfl⟩
  have hbw7 : Below w6.heap.size w6 w7 := by rw [← hw7]; exact balloc (bnil w6) _
  have T23 := T22.up hbw7
  clear T22
  have T24 := T23.add (fun wv => wv.cell? ⟨w6.heap.size, 0, none⟩ = some (.int .i64 o1) ∧ wv.cell? ⟨w6.heap.size, 1, none⟩ = some (.int .i64 o2) ∧ wv.cell? ⟨w6.heap.size, 2, none⟩ = some (.slice a2 n2 c2)) (by rw [← hw7]; exact ⟨cnw (by simp) rfl, cnw (by simp) rfl, cnw (by simp) rfl⟩)
  clear T23
  have Hw7 := Lib.hid hw7
  clear hw7 hbw7
  have v_p0 : (w6.alloc (.cells #[.int .i64 o1, .int .i64 o2, .slice a2 n2 c2] 24)).cell? ⟨W.heap.size, 0, none⟩ = some (.int .i64 w) := by rw [Hw7.out]; exact T24.out.1.1.1.1.1.1.1.1.1.1.2.1
  have v_p1 : (w6.alloc (.cells #[.int .i64 o1, .int .i64 o2, .slice a2 n2 c2] 24)).cell? ⟨W.heap.size, 1, none⟩ = some (.int .i64 h) := by rw [Hw7.out]; exact T24.out.1.1.1.1.1.1.1.1.1.1.2.2.1
  have v_p2 : (w6.alloc (.cells #[.int .i64 o1, .int .i64 o2, .slice a2 n2 c2] 24)).cell? ⟨W.heap.size, 2, none⟩ = some (.slice a n c) := by rw [Hw7.out]; exact T24.out.1.1.1.1.1.1.1.1.1.1.2.2.2
  go_wp2_with fail
  rw [Hw7.out]
  refine (HC.out.2.2.2.1 w7 a c T24.out.1.1.1.1.1.1.1.1.1.1.1.2).mono ?_; rintro e w8 ⟨a3, n3, c3, N3, a31, n31, c31, a32, n32, c32, rfl, ho3, hw3, hn3, hbw8⟩
  clear v_p0 v_p1 v_p2
  have T25 := T24.up hbw8
  clear T24
  have T26 := T25.add (fun wv => RK .i64 wv a3 n3 o3) (ho3)
  clear T25
  have T27 := T26.add (fun wv => WC wv (.agg #[.int .i64 N3, .slice a31 n31 c31, .slice a32 n32 c32]) D) (hw3)
  clear T26
  clear ho3 hw3 hn3
  obtain ⟨w9, hw9⟩ : ∃ w9, (w8.alloc (.cells #[.int .i64 o1, .int .i64 o2, .slice a3 n3 c3] 24)).alloc (.cells #[.int .i64 N3, .slice a31 n31 c31, .slice a32 n32 c32] 47) = w9 := ⟨_, rfl⟩
  have hbw9 : Below w8.heap.size w8 w9 := by rw [← hw9]; exact balloc (balloc (bnil w8) _) _
  have T28 := T27.up hbw9
  clear T27
  have T29 := T28.add (fun wv => wv.cell? ⟨w8.heap.size, 0, none⟩ = some (.int .i64 o1) ∧ wv.cell? ⟨w8.heap.size, 1, none⟩ = some (.int .i64 o2) ∧ wv.cell? ⟨w8.heap.size, 2, none⟩ = some (.slice a3 n3 c3)) (by rw [← hw9]; exact ⟨al000 (cnw (by simp) rfl), al000 (cnw (by simp) rfl), al000 (cnw (by simp) rfl)⟩)
  clear T28
  have T30 := T29.add (fun wv => wv.cell? ⟨w8.heap.size + 1, 0, none⟩ = some (.int .i64 N3) ∧ wv.cell? ⟨w8.heap.size + 1, 1, none⟩ = some (.slice a31 n31 c31) ∧ wv.cell? ⟨w8.heap.size + 1, 2, none⟩ = some (.slice a32 n32 c32)) (by rw [← hw9]; exact ⟨cnw (by simp) rfl, cnw (by simp) rfl, cnw (by simp) rfl⟩)
  clear T29
  have Hw9 := Lib.hid hw9
  clear hw9 hbw9
  have v_m0 : ((w8.alloc (.cells #[.int .i64 o1, .int .i64 o2, .slice a3 n3 c3] 24)).alloc (.cells #[.int .i64 N3, .slice a31 n31 c31, .slice a32 n32 c32] 47)).cell? ⟨w2.heap.size, 0, none⟩ = some (.int .i64 w) := by rw [Hw9.out]; exact T30.out.1.1.1.1.1.1.1.1.1.1.2.1
  have v_m1 : ((w8.alloc (.cells #[.int .i64 o1, .int .i64 o2, .slice a3 n3 c3] 24)).alloc (.cells #[.int .i64 N3, .slice a31 n31 c31, .slice a32 n32 c32] 47)).cell? ⟨w2.heap.size, 1, none⟩ = some (.int .i64 h) := by rw [Hw9.out]; exact T30.out.1.1.1.1.1.1.1.1.1.1.2.2.1
  have v_m2 : ((w8.alloc (.cells #[.int .i64 o1, .int .i64 o2, .slice a3 n3 c3] 24)).alloc (.cells #[.int .i64 N3, .slice a31 n31 c31, .slice a32 n32 c32] 47)).cell? ⟨w2.heap.size, 2, none⟩ = some (.slice (some ⟨gm, 0, none⟩) n (n + 2)) := by rw [Hw9.out]; exact T30.out.1.1.1.1.1.1.1.1.1.1.2.2.2
  have v_q0 : ((w8.alloc (.cells #[.int .i64 o1, .int .i64 o2, .slice a3 n3 c3] 24)).alloc (.cells #[.int .i64 N3, .slice a31 n31 c31, .slice a32 n32 c32] 47)).cell? ⟨W.heap.size + 1, 0, none⟩ = some (.int .i64 x) := by rw [Hw9.out]; exact T30.out.1.1.1.1.1.1.1.1.1.1.1.1.1.2.1
  have v_q1 : ((w8.alloc (.cells #[.int .i64 o1, .int .i64 o2, .slice a3 n3 c3] 24)).alloc (.cells #[.int .i64 N3, .slice a31 n31 c31, .slice a32 n32 c32] 47)).cell? ⟨W.heap.size + 1, 1, none⟩ = some (.int .i64 y) := by rw [Hw9.out]; exact T30.out.1.1.1.1.1.1.1.1.1.1.1.1.1.2.2.1
  have v_q2 : ((w8.alloc (.cells #[.int .i64 o1, .int .i64 o2, .slice a3 n3 c3] 24)).alloc (.cells #[.int .i64 N3, .slice a31 n31 c31, .slice a32 n32 c32] 47)).cell? ⟨W.heap.size + 1, 2, none⟩ = some (.int .i64 p) := by rw [Hw9.out]; exact T30.out.1.1.1.1.1.1.1.1.1.1.1.1.1.2.2.2.1
  have v_q3 : ((w8.alloc (.cells #[.int .i64 o1, .int .i64 o2, .slice a3 n3 c3] 24)).alloc (.cells #[.int .i64 N3, .slice a31 n31 c31, .slice a32 n32 c32] 47)).cell? ⟨W.heap.size + 1, 3, none⟩ = some (.int .i64 q) := by rw [Hw9.out]; exact T30.out.1.1.1.1.1.1.1.1.1.1.1.1.1.2.2.2.2
  go_wp2_with fail
  rw [Hw9.out]
  refine (HC.out.2.2.2.2.1 w9 (some ⟨gm, 0, none⟩) (n + 2) (T30.out.1.1.1.1.1.1.1.1.1.1.1.1.1.1.1.1.1.2).sent T30.out.1.1.1.1.1.1.1.1.1.1.1.2).mono ?_; rintro e w10 ⟨a4, n4, c4, ev4, rfl, ho4, he4, hbw10⟩
  clear v_m0 v_m1 v_m2 v_q0 v_q1 v_q2 v_q3
  have T31 := T30.up hbw10
  clear T30
  have T32 := T31.add (fun wv => RK .i64 wv a4 n4 u3) (ho4.rk)
  clear T31
  have T33 := T32.add (fun wv => EC R wv ev4 D2) (he4)
  clear T32
  have hl4 := ho4.lm
  clear ho4 he4
  obtain ⟨w11, hw11⟩ : ∃ w11, w10.alloc (.cells #[.int .i64 u1, .int .i64 u2, .slice a4 n4 c4] 24) = w11 := ⟨_, rfl⟩
  have hbw11 : Below w10.heap.size w10 w11 := by rw [← hw11]; exact balloc (bnil w10) _
  have T34 := T33.up hbw11
  clear T33
  have T35 := T34.add (fun wv => wv.cell? ⟨w10.heap.size, 0, none⟩ = some (.int .i64 u1) ∧ wv.cell? ⟨w10.heap.size, 1, none⟩ = some (.int .i64 u2) ∧ wv.cell? ⟨w10.heap.size, 2, none⟩ = some (.slice a4 n4 c4)) (by rw [← hw11]; exact ⟨cnw (by simp) rfl, cnw (by simp) rfl, cnw (by simp) rfl⟩)
  clear T34
  have Hw11 := Lib.hid hw11
  clear hw11 hbw11
  have v_p0 : (w10.alloc (.cells #[.int .i64 u1, .int .i64 u2, .slice a4 n4 c4] 24)).cell? ⟨W.heap.size, 0, none⟩ = some (.int .i64 w) := by rw [Hw11.out]; exact T35.out.1.1.1.1.1.1.1.1.1.1.1.1.1.1.1.1.1.2.1
  have v_p1 : (w10.alloc (.cells #[.int .i64 u1, .int .i64 u2, .slice a4 n4 c4] 24)).cell? ⟨W.heap.size, 1, none⟩ = some (.int .i64 h) := by rw [Hw11.out]; exact T35.out.1.1.1.1.1.1.1.1.1.1.1.1.1.1.1.1.1.2.2.1
  have v_p2 : (w10.alloc (.cells #[.int .i64 u1, .int .i64 u2, .slice a4 n4 c4] 24)).cell? ⟨W.heap.size, 2, none⟩ = some (.slice a n c) := by rw [Hw11.out]; exact T35.out.1.1.1.1.1.1.1.1.1.1.1.1.1.1.1.1.1.2.2.2
  have v_q0 : (w10.alloc (.cells #[.int .i64 u1, .int .i64 u2, .slice a4 n4 c4] 24)).cell? ⟨W.heap.size + 1, 0, none⟩ = some (.int .i64 x) := by rw [Hw11.out]; exact T35.out.1.1.1.1.1.1.1.1.1.1.1.1.1.1.1.1.2.1
  have v_q1 : (w10.alloc (.cells #[.int .i64 u1, .int .i64 u2, .slice a4 n4 c4] 24)).cell? ⟨W.heap.size + 1, 1, none⟩ = some (.int .i64 y) := by rw [Hw11.out]; exact T35.out.1.1.1.1.1.1.1.1.1.1.1.1.1.1.1.1.2.2.1
  have v_q2 : (w10.alloc (.cells #[.int .i64 u1, .int .i64 u2, .slice a4 n4 c4] 24)).cell? ⟨W.heap.size + 1, 2, none⟩ = some (.int .i64 p) := by rw [Hw11.out]; exact T35.out.1.1.1.1.1.1.1.1.1.1.1.1.1.1.1.1.2.2.2.1
  have v_q3 : (w10.alloc (.cells #[.int .i64 u1, .int .i64 u2, .slice a4 n4 c4] 24)).cell? ⟨W.heap.size + 1, 3, none⟩ = some (.int .i64 q) := by rw [Hw11.out]; exact T35.out.1.1.1.1.1.1.1.1.1.1.1.1.1.1.1.1.2.2.2.2
  go_wp2_with fail
  rw [Hw11.out]
  refine (HC.out.2.2.2.2.2.1 w11 a c (T35.out.1.1.1.1.1.1.1.1.1.1.1.1.1.1.1.1.1.1.2).rk).mono ?_; rintro e w12 ⟨a5, n5, c5, N5, a51, n51, c51, a52, n52, c52, rfl, ho5, hw5, hn5, hbw12⟩
  clear v_p0 v_p1 v_p2 v_q0 v_q1 v_q2 v_q3
  have T36 := T35.up hbw12
  clear T35
  have T37 := T36.add (fun wv => RK .i64 wv a5 n5 u3) (ho5)
  clear T36
  have T38 := T37.add (fun wv => WC wv (.agg #[.int .i64 N5, .slice a51 n51 c51, .slice a52 n52 c52]) D2) (hw5)
  clear T37
  clear ho5 hw5 hn5
  obtain ⟨w13, hw13⟩ : ∃ w13, (w12.alloc (.cells #[.int .i64 u1, .int .i64 u2, .slice a5 n5 c5] 24)).alloc (.cells #[.int .i64 N5, .slice a51 n51 c51, .slice a52 n52 c52] 47) = w13 := ⟨_, rfl⟩
  have hbw13 : Below w12.heap.size w12 w13 := by rw [← hw13]; exact balloc (balloc (bnil w12) _) _
  have T39 := T38.up hbw13
  clear T38
  have T40 := T39.add (fun wv => wv.cell? ⟨w12.heap.size, 0, none⟩ = some (.int .i64 u1) ∧ wv.cell? ⟨w12.heap.size, 1, none⟩ = some (.int .i64 u2) ∧ wv.cell? ⟨w12.heap.size, 2, none⟩ = some (.slice a5 n5 c5)) (by rw [← hw13]; exact ⟨al000 (cnw (by simp) rfl), al000 (cnw (by simp) rfl), al000 (cnw (by simp) rfl)⟩)
  clear T39
  have T41 := T40.add (fun wv => wv.cell? ⟨w12.heap.size + 1, 0, none⟩ = some (.int .i64 N5) ∧ wv.cell? ⟨w12.heap.size + 1, 1, none⟩ = some (.slice a51 n51 c51) ∧ wv.cell? ⟨w12.heap.size + 1, 2, none⟩ = some (.slice a52 n52 c52)) (by rw [← hw13]; exact ⟨cnw (by simp) rfl, cnw (by simp) rfl, cnw (by simp) rfl⟩)
  clear T40
  have Hw13 := Lib.hid hw13
  clear hw13 hbw13
  have v_m0 : ((w12.alloc (.cells #[.int .i64 u1, .int .i64 u2, .slice a5 n5 c5] 24)).alloc (.cells #[.int .i64 N5, .slice a51 n51 c51, .slice a52 n52 c52] 47)).cell? ⟨w2.heap.size, 0, none⟩ = some (.int .i64 w) := by rw [Hw13.out]; exact T41.out.1.1.1.1.1.1.1.1.1.1.1.1.1.1.1.1.1.2.1
  have v_m1 : ((w12.alloc (.cells #[.int .i64 u1, .int .i64 u2, .slice a5 n5 c5] 24)).alloc (.cells #[.int .i64 N5, .slice a51 n51 c51, .slice a52 n52 c52] 47)).cell? ⟨w2.heap.size, 1, none⟩ = some (.int .i64 h) := by rw [Hw13.out]; exact T41.out.1.1.1.1.1.1.1.1.1.1.1.1.1.1.1.1.1.2.2.1
  have v_m2 : ((w12.alloc (.cells #[.int .i64 u1, .int .i64 u2, .slice a5 n5 c5] 24)).alloc (.cells #[.int .i64 N5, .slice a51 n51 c51, .slice a52 n52 c52] 47)).cell? ⟨w2.heap.size, 2, none⟩ = some (.slice (some ⟨gm, 0, none⟩) n (n + 2)) := by rw [Hw13.out]; exact T41.out.1.1.1.1.1.1.1.1.1.1.1.1.1.1.1.1.1.2.2.2
  go_wp2_with fail
  rw [Hw13.out]
  refine (HC.out.2.2.2.2.2.2.1 w13 (some ⟨gm, 0, none⟩) (n + 2) (T41.out.1.1.1.1.1.1.1.1.1.1.1.1.1.1.1.1.1.1.1.1.1.1.1.1.2).sent T41.out.1.1.1.1.1.1.1.1.1.1.1.1.1.1.1.1.1.1.2).mono ?_; rintro e w14 ⟨a6, n6, c6, ev6, rfl, ho6, he6, hbw14⟩
  clear v_m0 v_m1 v_m2
  have T42 := T41.up hbw14
  clear T41
  have T43 := T42.add (fun wv => RK .i64 wv a6 n6 CO) (ho6.rk)
  clear T42
  have T44 := T43.add (fun wv => EC R wv ev6 CD) (he6)
  clear T43
  have hl6 := ho6.lm
  clear ho6 he6
  have v_p0 : w14.cell? ⟨W.heap.size, 0, none⟩ = some (.int .i64 w) := T44.out.1.1.1.1.1.1.1.1.1.1.1.1.1.1.1.1.1.1.1.1.1.1.1.2.1
  have v_p1 : w14.cell? ⟨W.heap.size, 1, none⟩ = some (.int .i64 h) := T44.out.1.1.1.1.1.1.1.1.1.1.1.1.1.1.1.1.1.1.1.1.1.1.1.2.2.1
  have v_p2 : w14.cell? ⟨W.heap.size, 2, none⟩ = some (.slice a n c) := T44.out.1.1.1.1.1.1.1.1.1.1.1.1.1.1.1.1.1.1.1.1.1.1.1.2.2.2
  go_wp2_with fail
  refine (HC.out.2.2.2.2.2.2.2.1 w14 a c (T44.out.1.1.1.1.1.1.1.1.1.1.1.1.1.1.1.1.1.1.1.1.1.1.1.1.2).rk).mono ?_; rintro e w15 ⟨a7, n7, c7, N7, a71, n71, c71, a72, n72, c72, rfl, ho7, hw7, hn7, hbw15⟩
  clear v_p0 v_p1 v_p2
  have T45 := T44.up hbw15
  clear T44
  have T46 := T45.add (fun wv => RK .i64 wv a7 n7 CO) (ho7)
  clear T45
  have T47 := T46.add (fun wv => WC wv (.agg #[.int .i64 N7, .slice a71 n71 c71, .slice a72 n72 c72]) CD) (hw7)
  clear T46
  clear ho7 hw7 hn7
  obtain ⟨w16, hw16⟩ : ∃ w16, w15.alloc (.cells #[.int .i64 N7, .slice a71 n71 c71, .slice a72 n72 c72] 47) = w16 := ⟨_, rfl⟩
  have hbw16 : Below w15.heap.size w15 w16 := by rw [← hw16]; exact balloc (bnil w15) _
  have T48 := T47.up hbw16
  clear T47
  have T49 := T48.add (fun wv => wv.cell? ⟨w15.heap.size, 0, none⟩ = some (.int .i64 N7) ∧ wv.cell? ⟨w15.heap.size, 1, none⟩ = some (.slice a71 n71 c71) ∧ wv.cell? ⟨w15.heap.size, 2, none⟩ = some (.slice a72 n72 c72)) (by rw [← hw16]; exact ⟨cnw (by simp) rfl, cnw (by simp) rfl, cnw (by simp) rfl⟩)
  clear T48
  have Hw16 := Lib.hid hw16
  clear hw16 hbw16
  have v_f0 : (w15.alloc (.cells #[.int .i64 N7, .slice a71 n71 c71, .slice a72 n72 c72] 47)).cell? ⟨w4.heap.size, 0, none⟩ = some (.int .i64 N1) := by rw [Hw16.out]; exact T49.out.1.1.1.1.1.1.1.1.1.1.1.1.1.1.1.1.1.1.1.2.1
  have v_f1 : (w15.alloc (.cells #[.int .i64 N7, .slice a71 n71 c71, .slice a72 n72 c72] 47)).cell? ⟨w4.heap.size, 1, none⟩ = some (.slice a11 n11 c11) := by rw [Hw16.out]; exact T49.out.1.1.1.1.1.1.1.1.1.1.1.1.1.1.1.1.1.1.1.2.2.1
  have v_f2 : (w15.alloc (.cells #[.int .i64 N7, .slice a71 n71 c71, .slice a72 n72 c72] 47)).cell? ⟨w4.heap.size, 2, none⟩ = some (.slice a12 n12 c12) := by rw [Hw16.out]; exact T49.out.1.1.1.1.1.1.1.1.1.1.1.1.1.1.1.1.1.1.1.2.2.2
  go_wp2_with fail
  rw [Hw16.out]
  refine (rawIs_ch ev1 (.agg #[.int .i64 N1, .slice a11 n11 c11, .slice a12 n12 c12]) D w16 R T49.out.1.1.1.1.1.1.1.1.1.1.1.1.1.1.1.1.1.1.1.1.1.1.1.1.1.1.1.1.1.2 T49.out.1.1.1.1.1.1.1.1.1.1.1.1.1.1.1.1.1.1.1.1.1.2 T49.out.1.1.1.1.1.1.1.1.1.1.1.1.1.1.1.1.1.1.1.1.2).mono ?_; rintro e w17 ⟨rfl, hbw17⟩
  clear v_f0 v_f1 v_f2
  have T50 := T49.up hbw17
  clear T49
  have v_x0 : w17.cell? ⟨w6.heap.size, 0, none⟩ = some (.int .i64 o1) := T50.out.1.1.1.1.1.1.1.1.1.1.1.1.1.1.1.1.2.1
  have v_x1 : w17.cell? ⟨w6.heap.size, 1, none⟩ = some (.int .i64 o2) := T50.out.1.1.1.1.1.1.1.1.1.1.1.1.1.1.1.1.2.2.1
  have v_x2 : w17.cell? ⟨w6.heap.size, 2, none⟩ = some (.slice a2 n2 c2) := T50.out.1.1.1.1.1.1.1.1.1.1.1.1.1.1.1.1.2.2.2
  have v_y0 : w17.cell? ⟨w8.heap.size, 0, none⟩ = some (.int .i64 o1) := T50.out.1.1.1.1.1.1.1.1.1.1.1.1.1.2.1
  have v_y1 : w17.cell? ⟨w8.heap.size, 1, none⟩ = some (.int .i64 o2) := T50.out.1.1.1.1.1.1.1.1.1.1.1.1.1.2.2.1
  have v_y2 : w17.cell? ⟨w8.heap.size, 2, none⟩ = some (.slice a3 n3 c3) := T50.out.1.1.1.1.1.1.1.1.1.1.1.1.1.2.2.2
  go_wp2_with fail
  refine (patches_eq o1 o2 a2 a3 n2 n3 c2 c3 o3 w17 T50.out.1.1.1.1.1.1.1.1.1.1.1.1.1.1.1.1.1.1.2 T50.out.1.1.1.1.1.1.1.1.1.1.1.1.1.1.1.2 hl2).mono ?_; rintro e w18 ⟨rfl, hbw18⟩
  clear v_x0 v_x1 v_x2 v_y0 v_y1 v_y2
  have T51 := T50.up hbw18
  clear T50
  have v_g0 : w18.cell? ⟨w8.heap.size + 1, 0, none⟩ = some (.int .i64 N3) := T51.out.1.1.1.1.1.1.1.1.1.1.1.1.2.1
  have v_g1 : w18.cell? ⟨w8.heap.size + 1, 1, none⟩ = some (.slice a31 n31 c31) := T51.out.1.1.1.1.1.1.1.1.1.1.1.1.2.2.1
  have v_g2 : w18.cell? ⟨w8.heap.size + 1, 2, none⟩ = some (.slice a32 n32 c32) := T51.out.1.1.1.1.1.1.1.1.1.1.1.1.2.2.2
  go_wp2_with fail
  refine (rawIs_ch ev2 (.agg #[.int .i64 N3, .slice a31 n31 c31, .slice a32 n32 c32]) D w18 R T51.out.1.1.1.1.1.1.1.1.1.1.1.1.1.1.1.1.1.1.1.1.1.1.1.1.1.1.1.1.1.2 T51.out.1.1.1.1.1.1.1.1.1.1.1.1.1.1.1.1.1.2 T51.out.1.1.1.1.1.1.1.1.1.1.1.1.1.1.2).mono ?_; rintro e w19 ⟨rfl, hbw19⟩
  clear v_g0 v_g1 v_g2
  have T52 := T51.up hbw19
  clear T51
  have v_u0 : w19.cell? ⟨w10.heap.size, 0, none⟩ = some (.int .i64 u1) := T52.out.1.1.1.1.1.1.1.1.1.2.1
  have v_u1 : w19.cell? ⟨w10.heap.size, 1, none⟩ = some (.int .i64 u2) := T52.out.1.1.1.1.1.1.1.1.1.2.2.1
  have v_u2 : w19.cell? ⟨w10.heap.size, 2, none⟩ = some (.slice a4 n4 c4) := T52.out.1.1.1.1.1.1.1.1.1.2.2.2
  have v_v0 : w19.cell? ⟨w12.heap.size, 0, none⟩ = some (.int .i64 u1) := T52.out.1.1.1.1.1.1.2.1
  have v_v1 : w19.cell? ⟨w12.heap.size, 1, none⟩ = some (.int .i64 u2) := T52.out.1.1.1.1.1.1.2.2.1
  have v_v2 : w19.cell? ⟨w12.heap.size, 2, none⟩ = some (.slice a5 n5 c5) := T52.out.1.1.1.1.1.1.2.2.2
  go_wp2_with fail
  refine (patches_eq u1 u2 a4 a5 n4 n5 c4 c5 u3 w19 T52.out.1.1.1.1.1.1.1.1.1.1.1.2 T52.out.1.1.1.1.1.1.1.1.2 hl4).mono ?_; rintro e w20 ⟨rfl, hbw20⟩
  clear v_u0 v_u1 v_u2 v_v0 v_v1 v_v2
  have T53 := T52.up hbw20
  clear T52
  have v_i0 : w20.cell? ⟨w12.heap.size + 1, 0, none⟩ = some (.int .i64 N5) := T53.out.1.1.1.1.1.2.1
  have v_i1 : w20.cell? ⟨w12.heap.size + 1, 1, none⟩ = some (.slice a51 n51 c51) := T53.out.1.1.1.1.1.2.2.1
  have v_i2 : w20.cell? ⟨w12.heap.size + 1, 2, none⟩ = some (.slice a52 n52 c52) := T53.out.1.1.1.1.1.2.2.2
  go_wp2_with fail
  refine (rawIs_ch ev4 (.agg #[.int .i64 N5, .slice a51 n51 c51, .slice a52 n52 c52]) D2 w20 R T53.out.1.1.1.1.1.1.1.1.1.1.1.1.1.1.1.1.1.1.1.1.1.1.1.1.1.1.1.1.1.2 T53.out.1.1.1.1.1.1.1.1.1.1.2 T53.out.1.1.1.1.1.1.1.2).mono ?_; rintro e w21 ⟨rfl, hbw21⟩
  clear v_i0 v_i1 v_i2
  have T54 := T53.up hbw21
  clear T53
  go_wp2_with fail
  refine (ints_eqB a6 a7 n6 n7 c6 c7 CO w21 T54.out.1.1.1.1.2 T54.out.1.1.2 hl6).mono ?_; rintro e w22 ⟨rfl, hbw22⟩
  have T55 := T54.up hbw22
  clear T54
  have v_o0 : w22.cell? ⟨w15.heap.size, 0, none⟩ = some (.int .i64 N7) := T55.out.2.1
  have v_o1 : w22.cell? ⟨w15.heap.size, 1, none⟩ = some (.slice a71 n71 c71) := T55.out.2.2.1
  have v_o2 : w22.cell? ⟨w15.heap.size, 2, none⟩ = some (.slice a72 n72 c72) := T55.out.2.2.2
  go_wp2_with fail
  refine (rawIs_ch ev6 (.agg #[.int .i64 N7, .slice a71 n71 c71, .slice a72 n72 c72]) CD w22 R T55.out.1.1.1.1.1.1.1.1.1.1.1.1.1.1.1.1.1.1.1.1.1.1.1.1.1.1.1.1.1.2 T55.out.1.1.1.2 T55.out.1.2).mono ?_; rintro e w23 ⟨rfl, hbw23⟩
  clear v_o0 v_o1 v_o2
  have T56 := T55.up hbw23
  clear T55
  go_wp2_with fail
  have TD := T56.up (Below.drew (bnil w23))
  have HS0 : Hid (w23.drew.cell? ⟨W.heap.size, 0, none⟩ = some (.int .i64 w) ∧ w23.drew.cell? ⟨W.heap.size, 1, none⟩ = some (.int .i64 h) ∧ w23.drew.cell? ⟨W.heap.size, 2, none⟩ = some (.slice a n c) ∧ w23.drew.cell? ⟨w2.heap.size, 0, none⟩ = some (.int .i64 w) ∧ w23.drew.cell? ⟨w2.heap.size, 1, none⟩ = some (.int .i64 h) ∧ w23.drew.cell? ⟨w2.heap.size, 2, none⟩ = some (.slice (some ⟨gm, 0, none⟩) n (n + 2))) := ⟨TD.out.1.1.1.1.1.1.1.1.1.1.1.1.1.1.1.1.1.1.1.1.1.1.1.1.1.1.2.1, TD.out.1.1.1.1.1.1.1.1.1.1.1.1.1.1.1.1.1.1.1.1.1.1.1.1.1.1.2.2.1, TD.out.1.1.1.1.1.1.1.1.1.1.1.1.1.1.1.1.1.1.1.1.1.1.1.1.1.1.2.2.2, TD.out.1.1.1.1.1.1.1.1.1.1.1.1.1.1.1.1.1.1.1.1.1.1.2.1, TD.out.1.1.1.1.1.1.1.1.1.1.1.1.1.1.1.1.1.1.1.1.1.1.2.2.1, TD.out.1.1.1.1.1.1.1.1.1.1.1.1.1.1.1.1.1.1.1.1.1.1.2.2.2⟩
  go_region_held3 (fun w' => w'.cell? ⟨W.heap.size, 0, none⟩ = some (.int .i64 w) ∧ w'.cell? ⟨W.heap.size, 1, none⟩ = some (.int .i64 h) ∧ w'.cell? ⟨W.heap.size, 2, none⟩ = some (.slice a n c) ∧ w'.cell? ⟨w2.heap.size, 0, none⟩ = some (.int .i64 w) ∧ w'.cell? ⟨w2.heap.size, 1, none⟩ = some (.int .i64 h) ∧ w'.cell? ⟨w2.heap.size, 2, none⟩ = some (.slice (some ⟨gm, 0, none⟩) n (n + 2)))
    (first | with_reducible exact HS4.out | with_reducible exact HS3.out | with_reducible exact HS2.out | with_reducible exact HS1.out | with_reducible exact HS0.out | go_keep)
    (first
      | (go_at_call 18; (with_reducible refine (kept21_any w h gm a n c l _ (TCQ.out.1.1.1.1.1.1.1.1.1.1.1.1.1.1.1.1.1.1.1.1.1.1.1.1.2) (TCQ.out.1.1.1.1.1.1.1.1.1.1.1.1.1.1.1.1.1.1.1.1.1.1.1.1.1.1.1.2).rk h8).mono ?_); rintro e z4 ⟨rfl, hbz4⟩; have TDQ := TCQ.up hbz4; have HS4 : Hid (z4.cell? ⟨W.heap.size, 0, none⟩ = some (.int .i64 w) ∧ z4.cell? ⟨W.heap.size, 1, none⟩ = some (.int .i64 h) ∧ z4.cell? ⟨W.heap.size, 2, none⟩ = some (.slice a n c) ∧ z4.cell? ⟨w2.heap.size, 0, none⟩ = some (.int .i64 w) ∧ z4.cell? ⟨w2.heap.size, 1, none⟩ = some (.int .i64 h) ∧ z4.cell? ⟨w2.heap.size, 2, none⟩ = some (.slice (some ⟨gm, 0, none⟩) n (n + 2))) := ⟨TDQ.out.1.1.1.1.1.1.1.1.1.1.1.1.1.1.1.1.1.1.1.1.1.1.1.1.1.1.2.1, TDQ.out.1.1.1.1.1.1.1.1.1.1.1.1.1.1.1.1.1.1.1.1.1.1.1.1.1.1.2.2.1, TDQ.out.1.1.1.1.1.1.1.1.1.1.1.1.1.1.1.1.1.1.1.1.1.1.1.1.1.1.2.2.2, TDQ.out.1.1.1.1.1.1.1.1.1.1.1.1.1.1.1.1.1.1.1.1.1.1.2.1, TDQ.out.1.1.1.1.1.1.1.1.1.1.1.1.1.1.1.1.1.1.1.1.1.1.2.2.1, TDQ.out.1.1.1.1.1.1.1.1.1.1.1.1.1.1.1.1.1.1.1.1.1.1.2.2.2⟩; clear hbz4)
      | (go_at_call 21; (with_reducible refine (rawIs_ch ev8 (.agg #[.int .i64 N8, .slice a81 n81 c81, .slice a82 n82 c82]) D _ R (TBQ.out.1.1.1.1.1.1.1.1.1.1.1.1.1.1.1.1.1.1.1.1.1.1.1.1.1.1.1.1.1.2) HEC2.out HW8.out).mono ?_); rintro e z3 ⟨rfl, hbz3⟩; have TCQ := TBQ.up hbz3; have HS3 : Hid (z3.cell? ⟨W.heap.size, 0, none⟩ = some (.int .i64 w) ∧ z3.cell? ⟨W.heap.size, 1, none⟩ = some (.int .i64 h) ∧ z3.cell? ⟨W.heap.size, 2, none⟩ = some (.slice a n c) ∧ z3.cell? ⟨w2.heap.size, 0, none⟩ = some (.int .i64 w) ∧ z3.cell? ⟨w2.heap.size, 1, none⟩ = some (.int .i64 h) ∧ z3.cell? ⟨w2.heap.size, 2, none⟩ = some (.slice (some ⟨gm, 0, none⟩) n (n + 2))) := ⟨TCQ.out.1.1.1.1.1.1.1.1.1.1.1.1.1.1.1.1.1.1.1.1.1.1.1.1.1.1.2.1, TCQ.out.1.1.1.1.1.1.1.1.1.1.1.1.1.1.1.1.1.1.1.1.1.1.1.1.1.1.2.2.1, TCQ.out.1.1.1.1.1.1.1.1.1.1.1.1.1.1.1.1.1.1.1.1.1.1.1.1.1.1.2.2.2, TCQ.out.1.1.1.1.1.1.1.1.1.1.1.1.1.1.1.1.1.1.1.1.1.1.2.1, TCQ.out.1.1.1.1.1.1.1.1.1.1.1.1.1.1.1.1.1.1.1.1.1.1.2.2.1, TCQ.out.1.1.1.1.1.1.1.1.1.1.1.1.1.1.1.1.1.1.1.1.1.1.2.2.2⟩; clear hbz3)
      | (go_at_call 10; (with_reducible refine (HC.out.2.2.2.2.2.2.2.2.1 _ (some ⟨gm, 0, none⟩) (n + 2) (TD.out.1.1.1.1.1.1.1.1.1.1.1.1.1.1.1.1.1.1.1.1.1.1.1.1.1.1.1.1.1.2).sent (TD.out.1.1.1.1.1.1.1.1.1.1.1.1.1.1.1.1.1.1.1.1.1.1.1.2)).mono ?_); rintro e z1 ⟨ev8, rfl, he8, hor8, hbz1⟩; have TAQ := TD.up hbz1; have HS1 : Hid (z1.cell? ⟨W.heap.size, 0, none⟩ = some (.int .i64 w) ∧ z1.cell? ⟨W.heap.size, 1, none⟩ = some (.int .i64 h) ∧ z1.cell? ⟨W.heap.size, 2, none⟩ = some (.slice a n c) ∧ z1.cell? ⟨w2.heap.size, 0, none⟩ = some (.int .i64 w) ∧ z1.cell? ⟨w2.heap.size, 1, none⟩ = some (.int .i64 h) ∧ z1.cell? ⟨w2.heap.size, 2, none⟩ = some (.slice (some ⟨gm, 0, none⟩) n (n + 2))) := ⟨TAQ.out.1.1.1.1.1.1.1.1.1.1.1.1.1.1.1.1.1.1.1.1.1.1.1.1.1.1.2.1, TAQ.out.1.1.1.1.1.1.1.1.1.1.1.1.1.1.1.1.1.1.1.1.1.1.1.1.1.1.2.2.1, TAQ.out.1.1.1.1.1.1.1.1.1.1.1.1.1.1.1.1.1.1.1.1.1.1.1.1.1.1.2.2.2, TAQ.out.1.1.1.1.1.1.1.1.1.1.1.1.1.1.1.1.1.1.1.1.1.1.2.1, TAQ.out.1.1.1.1.1.1.1.1.1.1.1.1.1.1.1.1.1.1.1.1.1.1.2.2.1, TAQ.out.1.1.1.1.1.1.1.1.1.1.1.1.1.1.1.1.1.1.1.1.1.1.2.2.2⟩; have HEC1 := Lib.hid he8; clear he8 hor8; clear hbz1)
      | (go_at_call 28; (with_reducible refine (HC.out.2.2.2.2.2.2.2.2.2 _ a c (TAQ.out.1.1.1.1.1.1.1.1.1.1.1.1.1.1.1.1.1.1.1.1.1.1.1.1.1.1.1.2).rk).mono ?_); rintro e z2 ⟨N8, a81, n81, c81, a82, n82, c82, rfl, hw8, _, _, _, _, hbz2⟩; have TBQ := TAQ.up hbz2; have HS2 : Hid (z2.cell? ⟨W.heap.size, 0, none⟩ = some (.int .i64 w) ∧ z2.cell? ⟨W.heap.size, 1, none⟩ = some (.int .i64 h) ∧ z2.cell? ⟨W.heap.size, 2, none⟩ = some (.slice a n c) ∧ z2.cell? ⟨w2.heap.size, 0, none⟩ = some (.int .i64 w) ∧ z2.cell? ⟨w2.heap.size, 1, none⟩ = some (.int .i64 h) ∧ z2.cell? ⟨w2.heap.size, 2, none⟩ = some (.slice (some ⟨gm, 0, none⟩) n (n + 2))) := ⟨TBQ.out.1.1.1.1.1.1.1.1.1.1.1.1.1.1.1.1.1.1.1.1.1.1.1.1.1.1.2.1, TBQ.out.1.1.1.1.1.1.1.1.1.1.1.1.1.1.1.1.1.1.1.1.1.1.1.1.1.1.2.2.1, TBQ.out.1.1.1.1.1.1.1.1.1.1.1.1.1.1.1.1.1.1.1.1.1.1.1.1.1.1.2.2.2, TBQ.out.1.1.1.1.1.1.1.1.1.1.1.1.1.1.1.1.1.1.1.1.1.1.2.1, TBQ.out.1.1.1.1.1.1.1.1.1.1.1.1.1.1.1.1.1.1.1.1.1.1.2.2.1, TBQ.out.1.1.1.1.1.1.1.1.1.1.1.1.1.1.1.1.1.1.1.1.1.1.2.2.2⟩; have HW8 := Lib.hid hw8; have HEC2 := Lib.hid (HEC1.out.up hbz2); clear hw8; clear hbz2))
  go_wp2
  go_ret
  exact ⟨rfl, TDQ.out.1.1.1.1.1.1.1.1.1.1.1.1.1.1.1.1.1.1.1.1.1.1.1.1.1.1.1.1.1.1.2⟩
end Go.Proofs.YtnlpobkmjhajcaaDoor
