/- edenlaw21.PatchTexts returns true. -/
import Derived.Test.YtnlpobkmjhajcaaDoorParA
import Derived.Test.YtnlpobkmjhajcaaDoorPatJ
import Derived.Test.YtnlpobkmjhajcaaDoorTrkP
namespace Go.Proofs.YtnlpobkmjhajcaaDoor
open Go.RowKit
set_option linter.unusedVariables false
set_option maxRecDepth 100000

theorem textS_ok {s : ByteArray} (hs : parErrP s = none) : (⟨(textP (wid s) (lnsB s).length (parCells s)).toArray⟩ : ByteArray) = s := by
  rw [(par_text hs).2]
theorem parse_okQ (s : ByteArray) (ww hh : Int) (cs : List Int) (W : World) (R : Nat → Addr) (hS : Sent W R) (m : Int) (hm : W.cell? ⟨13, 0, none⟩ = some (.int .i64 m)) (hp : parErrP s = none) (h1 : ((wid s : Nat) : Int) = ww) (h2 : (((lnsB s).length : Nat) : Int) = hh) (h3 : parCells s = cs) :
    Calls Tryd.prog 19 #[.string s] W fun e w' => ∃ a n c', e = .returned (.tuple #[patV ww hh a n c', .nilIface]) ∧ OwI w' W.heap.size a n c' cs ∧ Below W.heap.size W w' := by
  refine (parse_ok s W R hS m hm hp).mono ?_
  rintro e w' ⟨a, c', rfl, ho, hb⟩
  rw [h1, h2, h3] at *
  exact ⟨a, _, c', rfl, ho, hb⟩
theorem text_okQ (w h : Nat) (ww hh : Int) (TX : ByteArray) (a : Option Addr) (n c : Nat) (l : List Int) (W : World) (R : Nat → Addr) (hS : Sent W R) (hR : RK .i64 W a n l) (hm : n ≤ maxLen) (hp : IsPatch w h l) (h1 : ((w : Nat) : Int) = ww) (h2 : ((h : Nat) : Int) = hh) (h3 : (⟨(textP w h l).toArray⟩ : ByteArray) = TX) :
    Calls Tryd.prog 22 #[patV ww hh a n c] W fun e w' => e = .returned (.tuple #[.string TX, .nilIface]) ∧ Below W.heap.size W w' := by
  subst h1; subst h2; subst h3
  exact text_ok w h a n c l W R hS hR hm hp.i64 hp
theorem pcheck_okQ (w h : Nat) (ww hh : Int) (a : Option Addr) (n c : Nat) (l : List Int) (W : World) (R : Nat → Addr) (hS : Sent W R) (hR : RK .i64 W a n l) (hm : n ≤ maxLen) (hp : IsPatch w h l) (h1 : ((w : Nat) : Int) = ww) (h2 : ((h : Nat) : Int) = hh) :
    Calls Tryd.prog 10 #[patV ww hh a n c] W fun e w' => e = .returned .nilIface ∧ Below W.heap.size W w' := by
  subst h1; subst h2
  exact pcheck_ok w h a n c l W R hS hR hm hp.i64 hp
theorem text_erQ (w h : Int) (a : Option Addr) (n c : Nat) (l : List Int) (W : World) (R : Nat → Addr) (hS : Sent W R) (hR : RK .i64 W a n l) (hm : n ≤ maxLen) (hx : I64 l) (x : Int × Int) (he : patchErr w h l = some x) :
    Calls Tryd.prog 22 #[patV w h a n c] W fun e w' => ∃ t p, e = .returned (.tuple #[.string ⟨#[]⟩, .iface t p]) ∧ Below W.heap.size W w' := by
  refine (text_er w h a n c l W R hS hR hm hx x he).mono ?_
  rintro e w' ⟨ev, rfl, h2, hb⟩
  obtain ⟨t, p, rfl⟩ := Chain.iface h2
  exact ⟨t, _, rfl, hb⟩
theorem OwI.lmT {w : World} {B : Nat} {a : Option Addr} {n c : Nat} {l : List Int} (h : OwI w B a n c l) : n ≤ maxLen ∧ l.length ≤ maxLen := by
  have h1 := h.rk.len
  have h2 := h.nnc
  omega
set_option maxHeartbeats 16000000 in
theorem patch_texts (w h : Int) (a : Option Addr) (n c : Nat) (l : List Int) (s : ByteArray) (W : World) (R : Nat → Addr) (hE : Env W R) (m : Int) (hm : W.cell? ⟨13, 0, none⟩ = some (.int .i64 m)) (hR : SlI W a n c l) (hx : I64 l) (hsz : s.size ≤ maxLen) :
    Calls Tryd.prog 6 #[patV w h a n c, .string s] W (TrueBelow W) := by
  have hnm := hR.nm
  have HI6 := Lib.hid hx
  have T0 := Tk.nil W
  have T1 := T0.add (fun wv => Below W.heap.size W wv) (bnil W)
  clear T0
  have T2 := T1.add (fun wv => Env wv R) (hE)
  clear T1
  have T3 := T2.add (fun wv => wv.cell? ⟨13, 0, none⟩ = some (.int .i64 m)) (hm)
  clear T2
  have T4 := T3.add (fun wv => SlI wv a n c l) (hR)
  clear T3
  clear hE hR hm hx
  obtain ⟨Wb, hWb⟩ : ∃ Wb, W.alloc (.cells #[.int .i64 w, .int .i64 h, .slice a n c] 24) = Wb := ⟨_, rfl⟩
  have hbWb : Below W.heap.size W Wb := by rw [← hWb]; exact balloc (bnil W) _
  have T5 := T4.up hbWb
  clear T4
  have T6 := T5.add (fun wv => wv.cell? ⟨W.heap.size, 0, none⟩ = some (.int .i64 w) ∧ wv.cell? ⟨W.heap.size, 1, none⟩ = some (.int .i64 h) ∧ wv.cell? ⟨W.heap.size, 2, none⟩ = some (.slice a n c)) (by rw [← hWb]; exact ⟨cnw (by simp) rfl, cnw (by simp) rfl, cnw (by simp) rfl⟩)
  clear T5
  have HWb := Lib.hid hWb
  clear hWb hbWb
  have hpr := pr_par s
  have HPR := Lib.hid hpr
  clear hpr
  cases hse : parErrP s with
  | some y0 =>
    obtain ⟨D, hD⟩ : ∃ D : ErrD, some ([(opPatch, y0.1)], y0.2) = D := ⟨_, rfl⟩
    have c1 := fun W S m hm => parse_er s W R S m hm y0 hse
    have c2 := fun W => refparse_any s W
    rw [HPR.out.1, HPR.out.2, show parD s = D by rw [← hD]; unfold parD; rw [hse]; rfl, show parO s = (0, 0, []) by unfold parO; rw [hse]; rfl] at c2
    rw [hD] at c1
    have HC := Lib.hid (And.intro c1 c2)
    have HDD := Lib.hid hD
    clear c1 c2 hse hD
    go_enter Tryd.func6, Tryd.ntmps6
    go_wp2_with fail
    rw [HWb.out]
    refine (awake21 Wb R (T6.out.1.1.1.2).sent m T6.out.1.1.2).mono ?_; rintro e w1 ⟨rfl, hbw1⟩
    have T7 := T6.up hbw1
    clear T6
    go_wp2_with fail
    refine (HC.out.1 w1 (T7.out.1.1.1.2).sent m T7.out.1.1.2).mono ?_; rintro e w2 ⟨g2, rfl, he2, hbw2⟩
    have T8 := T7.up hbw2
    clear T7
    have T9 := T8.add (fun wv => EC R wv (.iface 78 (.pointer (some ⟨g2, 0, none⟩))) D) (he2)
    clear T8
    clear he2
    obtain ⟨w3, hw3⟩ : ∃ w3, w2.alloc (.cells #[.int .i64 0, .int .i64 0, .slice none 0 0] 24) = w3 := ⟨_, rfl⟩
    have hbw3 : Below w2.heap.size w2 w3 := by rw [← hw3]; exact balloc (bnil w2) _
    have T10 := T9.up hbw3
    clear T9
    have T11 := T10.add (fun wv => wv.cell? ⟨w2.heap.size, 0, none⟩ = some (.int .i64 0) ∧ wv.cell? ⟨w2.heap.size, 1, none⟩ = some (.int .i64 0) ∧ wv.cell? ⟨w2.heap.size, 2, none⟩ = some (.slice none 0 0)) (by rw [← hw3]; exact ⟨cnw (by simp) rfl, cnw (by simp) rfl, cnw (by simp) rfl⟩)
    clear T10
    have Hw3 := Lib.hid hw3
    clear hw3 hbw3
    go_wp2_with fail
    rw [Hw3.out]
    refine (HC.out.2 w3).mono ?_; rintro e w4 ⟨a4, n4, c4, N4, a41, n41, c41, a42, n42, c42, rfl, ho4, hw4, hn4, hbw4⟩
    have T12 := T11.up hbw4
    clear T11
    have T13 := T12.add (fun wv => RK .i64 wv a4 n4 []) (ho4)
    clear T12
    have T14 := T13.add (fun wv => WC wv (.agg #[.int .i64 N4, .slice a41 n41 c41, .slice a42 n42 c42]) D) (hw4)
    clear T13
    clear ho4 hw4 hn4
    obtain ⟨w5, hw5⟩ : ∃ w5, (w4.alloc (.cells #[.int .i64 0, .int .i64 0, .slice a4 n4 c4] 24)).alloc (.cells #[.int .i64 N4, .slice a41 n41 c41, .slice a42 n42 c42] 47) = w5 := ⟨_, rfl⟩
    have hbw5 : Below w4.heap.size w4 w5 := by rw [← hw5]; exact balloc (balloc (bnil w4) _) _
    have T15 := T14.up hbw5
    clear T14
    have T16 := T15.add (fun wv => wv.cell? ⟨w4.heap.size, 0, none⟩ = some (.int .i64 0) ∧ wv.cell? ⟨w4.heap.size, 1, none⟩ = some (.int .i64 0) ∧ wv.cell? ⟨w4.heap.size, 2, none⟩ = some (.slice a4 n4 c4)) (by rw [← hw5]; exact ⟨al000 (cnw (by simp) rfl), al000 (cnw (by simp) rfl), al000 (cnw (by simp) rfl)⟩)
    clear T15
    have T17 := T16.add (fun wv => wv.cell? ⟨w4.heap.size + 1, 0, none⟩ = some (.int .i64 N4) ∧ wv.cell? ⟨w4.heap.size + 1, 1, none⟩ = some (.slice a41 n41 c41) ∧ wv.cell? ⟨w4.heap.size + 1, 2, none⟩ = some (.slice a42 n42 c42)) (by rw [← hw5]; exact ⟨cnw (by simp) rfl, cnw (by simp) rfl, cnw (by simp) rfl⟩)
    clear T16
    have Hw5 := Lib.hid hw5
    clear hw5 hbw5
    have v_x0 : ((w4.alloc (.cells #[.int .i64 0, .int .i64 0, .slice a4 n4 c4] 24)).alloc (.cells #[.int .i64 N4, .slice a41 n41 c41, .slice a42 n42 c42] 47)).cell? ⟨w2.heap.size, 0, none⟩ = some (.int .i64 0) := by rw [Hw5.out]; exact T17.out.1.1.1.1.2.1
    have v_x1 : ((w4.alloc (.cells #[.int .i64 0, .int .i64 0, .slice a4 n4 c4] 24)).alloc (.cells #[.int .i64 N4, .slice a41 n41 c41, .slice a42 n42 c42] 47)).cell? ⟨w2.heap.size, 1, none⟩ = some (.int .i64 0) := by rw [Hw5.out]; exact T17.out.1.1.1.1.2.2.1
    have v_x2 : ((w4.alloc (.cells #[.int .i64 0, .int .i64 0, .slice a4 n4 c4] 24)).alloc (.cells #[.int .i64 N4, .slice a41 n41 c41, .slice a42 n42 c42] 47)).cell? ⟨w2.heap.size, 2, none⟩ = some (.slice none 0 0) := by rw [Hw5.out]; exact T17.out.1.1.1.1.2.2.2
    have v_y0 : ((w4.alloc (.cells #[.int .i64 0, .int .i64 0, .slice a4 n4 c4] 24)).alloc (.cells #[.int .i64 N4, .slice a41 n41 c41, .slice a42 n42 c42] 47)).cell? ⟨w4.heap.size, 0, none⟩ = some (.int .i64 0) := by rw [Hw5.out]; exact T17.out.1.2.1
    have v_y1 : ((w4.alloc (.cells #[.int .i64 0, .int .i64 0, .slice a4 n4 c4] 24)).alloc (.cells #[.int .i64 N4, .slice a41 n41 c41, .slice a42 n42 c42] 47)).cell? ⟨w4.heap.size, 1, none⟩ = some (.int .i64 0) := by rw [Hw5.out]; exact T17.out.1.2.2.1
    have v_y2 : ((w4.alloc (.cells #[.int .i64 0, .int .i64 0, .slice a4 n4 c4] 24)).alloc (.cells #[.int .i64 N4, .slice a41 n41 c41, .slice a42 n42 c42] 47)).cell? ⟨w4.heap.size, 2, none⟩ = some (.slice a4 n4 c4) := by rw [Hw5.out]; exact T17.out.1.2.2.2
    go_wp2_with fail
    rw [Hw5.out]
    refine (patches_eq 0 0 none a4 0 n4 0 c4 [] w5 RK.nil T17.out.1.1.1.2 (Nat.zero_le _)).mono ?_; rintro e w6 ⟨rfl, hbw6⟩
    clear v_x0 v_x1 v_x2 v_y0 v_y1 v_y2
    have T18 := T17.up hbw6
    clear T17
    have v_f0 : w6.cell? ⟨w4.heap.size + 1, 0, none⟩ = some (.int .i64 N4) := T18.out.2.1
    have v_f1 : w6.cell? ⟨w4.heap.size + 1, 1, none⟩ = some (.slice a41 n41 c41) := T18.out.2.2.1
    have v_f2 : w6.cell? ⟨w4.heap.size + 1, 2, none⟩ = some (.slice a42 n42 c42) := T18.out.2.2.2
    go_wp2_with fail
    refine (rawIs_ch (.iface 78 (.pointer (some ⟨g2, 0, none⟩))) (.agg #[.int .i64 N4, .slice a41 n41 c41, .slice a42 n42 c42]) D w6 R T18.out.1.1.1.1.1.1.1.1.1.2 T18.out.1.1.1.1.1.2 T18.out.1.1.2).mono ?_; rintro e w7 ⟨rfl, hbw7⟩
    clear v_f0 v_f1 v_f2
    have T19 := T18.up hbw7
    clear T18
    cases hpe : patchErr w h l with
    | some y =>
      have HPE := Lib.hid hpe
      clear hpe
      have v_p0 : w7.cell? ⟨W.heap.size, 0, none⟩ = some (.int .i64 w) := T19.out.1.1.1.1.1.1.2.1
      have v_p1 : w7.cell? ⟨W.heap.size, 1, none⟩ = some (.int .i64 h) := T19.out.1.1.1.1.1.1.2.2.1
      have v_p2 : w7.cell? ⟨W.heap.size, 2, none⟩ = some (.slice a n c) := T19.out.1.1.1.1.1.1.2.2.2
      go_wp2_with fail
      refine (text_erQ w h a n c l w7 R (T19.out.1.1.1.1.1.1.1.1.1.2).sent (T19.out.1.1.1.1.1.1.1.2).rk hnm HI6.out y HPE.out).mono ?_; rintro e x1 ⟨t1, p1, rfl, hbx1⟩
      clear v_p0 v_p1 v_p2
      have T20 := T19.up hbx1
      clear T19
      have v_p0 : x1.cell? ⟨W.heap.size, 0, none⟩ = some (.int .i64 w) := T20.out.1.1.1.1.1.1.2.1
      have v_p1 : x1.cell? ⟨W.heap.size, 1, none⟩ = some (.int .i64 h) := T20.out.1.1.1.1.1.1.2.2.1
      have v_p2 : x1.cell? ⟨W.heap.size, 2, none⟩ = some (.slice a n c) := T20.out.1.1.1.1.1.1.2.2.2
      go_wp2_with fail
      refine (pcheck_er w h a n c l x1 R (T20.out.1.1.1.1.1.1.1.1.1.2).sent (T20.out.1.1.1.1.1.1.1.2).rk hnm HI6.out y HPE.out).mono ?_; rintro e x2 ⟨g1, rfl, _, hbx2⟩
      clear v_p0 v_p1 v_p2
      have T21 := T20.up hbx2
      clear T20
      go_wp2
      go_ret
      exact ⟨rfl, T21.out.1.1.1.1.1.1.1.1.1.1.2⟩
    | none =>
      obtain ⟨w1, h1, hw1, hh1, hp⟩ := patchErr_none hpe
      obtain ⟨TX, hTX⟩ : ∃ TX, (⟨(textP w1 h1 l).toArray⟩ : ByteArray) = TX := ⟨_, rfl⟩
      have htp := text_par hp
      rw [hTX] at htp
      have HTP := Lib.hid htp
      have HTX := Lib.hid (And.intro hp (And.intro hw1.symm (And.intro hh1.symm hTX)))
      have q1 : Hid (((wid TX : Nat) : Int) = w) := by show _ = _; rw [htp.2.1]; exact hw1.symm
      have q2 : Hid ((((lnsB TX).length : Nat) : Int) = h) := by show _ = _; rw [htp.2.2.1]; exact hh1.symm
      clear hpe hw1 hh1 hp hTX htp
      have v_p0 : w7.cell? ⟨W.heap.size, 0, none⟩ = some (.int .i64 w) := T19.out.1.1.1.1.1.1.2.1
      have v_p1 : w7.cell? ⟨W.heap.size, 1, none⟩ = some (.int .i64 h) := T19.out.1.1.1.1.1.1.2.2.1
      have v_p2 : w7.cell? ⟨W.heap.size, 2, none⟩ = some (.slice a n c) := T19.out.1.1.1.1.1.1.2.2.2
      go_wp2_with fail
      refine (text_okQ w1 h1 w h TX a n c l w7 R (T19.out.1.1.1.1.1.1.1.1.1.2).sent (T19.out.1.1.1.1.1.1.1.2).rk hnm HTX.out.1 HTX.out.2.1 HTX.out.2.2.1 HTX.out.2.2.2).mono ?_; rintro e x1 ⟨rfl, hbx1⟩
      clear v_p0 v_p1 v_p2
      have T20 := T19.up hbx1
      clear T19
      go_wp2_with fail
      refine (parse_okQ TX w h l x1 R (T20.out.1.1.1.1.1.1.1.1.1.2).sent m T20.out.1.1.1.1.1.1.1.1.2 HTP.out.1 q1.out q2.out HTP.out.2.2.2).mono ?_; rintro e x2 ⟨a9, n9, c9, rfl, ho9, hbx2⟩
      have T21 := T20.up hbx2
      clear T20
      have T22 := T21.add (fun wv => RK .i64 wv a9 n9 l) (ho9.rk)
      clear T21
      have hl9 := ho9.lmT.2
      clear ho9
      obtain ⟨x3, hx3⟩ : ∃ x3, x2.alloc (.cells #[.int .i64 w, .int .i64 h, .slice a9 n9 c9] 24) = x3 := ⟨_, rfl⟩
      have hbx3 : Below x2.heap.size x2 x3 := by rw [← hx3]; exact balloc (bnil x2) _
      have T23 := T22.up hbx3
      clear T22
      have T24 := T23.add (fun wv => wv.cell? ⟨x2.heap.size, 0, none⟩ = some (.int .i64 w) ∧ wv.cell? ⟨x2.heap.size, 1, none⟩ = some (.int .i64 h) ∧ wv.cell? ⟨x2.heap.size, 2, none⟩ = some (.slice a9 n9 c9)) (by rw [← hx3]; exact ⟨cnw (by simp) rfl, cnw (by simp) rfl, cnw (by simp) rfl⟩)
      clear T23
      have Hx3 := Lib.hid hx3
      clear hx3 hbx3
      have v_z0 : (x2.alloc (.cells #[.int .i64 w, .int .i64 h, .slice a9 n9 c9] 24)).cell? ⟨x2.heap.size, 0, none⟩ = some (.int .i64 w) := by rw [Hx3.out]; exact T24.out.2.1
      have v_z1 : (x2.alloc (.cells #[.int .i64 w, .int .i64 h, .slice a9 n9 c9] 24)).cell? ⟨x2.heap.size, 1, none⟩ = some (.int .i64 h) := by rw [Hx3.out]; exact T24.out.2.2.1
      have v_z2 : (x2.alloc (.cells #[.int .i64 w, .int .i64 h, .slice a9 n9 c9] 24)).cell? ⟨x2.heap.size, 2, none⟩ = some (.slice a9 n9 c9) := by rw [Hx3.out]; exact T24.out.2.2.2
      have v_p0 : (x2.alloc (.cells #[.int .i64 w, .int .i64 h, .slice a9 n9 c9] 24)).cell? ⟨W.heap.size, 0, none⟩ = some (.int .i64 w) := by rw [Hx3.out]; exact T24.out.1.1.1.1.1.1.1.1.2.1
      have v_p1 : (x2.alloc (.cells #[.int .i64 w, .int .i64 h, .slice a9 n9 c9] 24)).cell? ⟨W.heap.size, 1, none⟩ = some (.int .i64 h) := by rw [Hx3.out]; exact T24.out.1.1.1.1.1.1.1.1.2.2.1
      have v_p2 : (x2.alloc (.cells #[.int .i64 w, .int .i64 h, .slice a9 n9 c9] 24)).cell? ⟨W.heap.size, 2, none⟩ = some (.slice a n c) := by rw [Hx3.out]; exact T24.out.1.1.1.1.1.1.1.1.2.2.2
      go_wp2_with fail
      rw [Hx3.out]
      refine (patches_eq w h a9 a n9 n c9 c l x3 T24.out.1.2 (T24.out.1.1.1.1.1.1.1.1.1.2).rk hl9).mono ?_; rintro e x4 ⟨rfl, hbx4⟩
      clear v_z0 v_z1 v_z2 v_p0 v_p1 v_p2
      have T25 := T24.up hbx4
      clear T24
      go_wp2
      go_ret
      exact ⟨rfl, T25.out.1.1.1.1.1.1.1.1.1.1.1.1.2⟩
  | none =>
    have hpt := par_text hse
    have hts := textS_ok hse
    obtain ⟨w0, hw0⟩ : ∃ w0, wid s = w0 := ⟨_, rfl⟩
    obtain ⟨h0, hh0⟩ : ∃ h0, (lnsB s).length = h0 := ⟨_, rfl⟩
    obtain ⟨cs, hcs⟩ : ∃ cs, parCells s = cs := ⟨_, rfl⟩
    have c2 := fun W => refparse_any s W
    rw [HPR.out.1, HPR.out.2, show parD s = none by unfold parD; rw [hse]; rfl, show parO s = ((w0 : Int), (h0 : Int), cs) by unfold parO; rw [if_pos hse, hw0, hh0, hcs]] at c2
    rw [hw0, hh0, hcs] at hpt hts
    have HC := Lib.hid c2
    have HPT := Lib.hid (And.intro hpt.1 hts)
    have HSE := Lib.hid (And.intro hse (And.intro (congrArg (fun x : Nat => (x : Int)) hw0) (And.intro (congrArg (fun x : Nat => (x : Int)) hh0) hcs)))
    clear hpt hts c2 hse hw0 hh0 hcs
    go_enter Tryd.func6, Tryd.ntmps6
    go_wp2_with fail
    rw [HWb.out]
    refine (awake21 Wb R (T6.out.1.1.1.2).sent m T6.out.1.1.2).mono ?_; rintro e w1 ⟨rfl, hbw1⟩
    have T7 := T6.up hbw1
    clear T6
    go_wp2_with fail
    refine (parse_okQ s w0 h0 cs w1 R (T7.out.1.1.1.2).sent m T7.out.1.1.2 HSE.out.1 HSE.out.2.1 HSE.out.2.2.1 HSE.out.2.2.2).mono ?_; rintro e w2 ⟨a2, n2, c2, rfl, ho2, hbw2⟩
    have T8 := T7.up hbw2
    clear T7
    have T9 := T8.add (fun wv => RK .i64 wv a2 n2 cs) (ho2.rk)
    clear T8
    have hl2 := ho2.lmT.2
    have hn2 := ho2.lmT.1
    clear ho2
    obtain ⟨w3, hw3⟩ : ∃ w3, w2.alloc (.cells #[.int .i64 w0, .int .i64 h0, .slice a2 n2 c2] 24) = w3 := ⟨_, rfl⟩
    have hbw3 : Below w2.heap.size w2 w3 := by rw [← hw3]; exact balloc (bnil w2) _
    have T10 := T9.up hbw3
    clear T9
    have T11 := T10.add (fun wv => wv.cell? ⟨w2.heap.size, 0, none⟩ = some (.int .i64 w0) ∧ wv.cell? ⟨w2.heap.size, 1, none⟩ = some (.int .i64 h0) ∧ wv.cell? ⟨w2.heap.size, 2, none⟩ = some (.slice a2 n2 c2)) (by rw [← hw3]; exact ⟨cnw (by simp) rfl, cnw (by simp) rfl, cnw (by simp) rfl⟩)
    clear T10
    have Hw3 := Lib.hid hw3
    clear hw3 hbw3
    go_wp2_with fail
    rw [Hw3.out]
    refine (HC.out w3).mono ?_; rintro e w4 ⟨a4, n4, c4, N4, a41, n41, c41, a42, n42, c42, rfl, ho4, hw4, hn4, hbw4⟩
    have T12 := T11.up hbw4
    clear T11
    have T13 := T12.add (fun wv => RK .i64 wv a4 n4 cs) (ho4)
    clear T12
    have T14 := T13.add (fun wv => WC wv (.agg #[.int .i64 N4, .slice a41 n41 c41, .slice a42 n42 c42]) none) (hw4)
    clear T13
    clear ho4 hw4 hn4
    obtain ⟨w5, hw5⟩ : ∃ w5, (w4.alloc (.cells #[.int .i64 w0, .int .i64 h0, .slice a4 n4 c4] 24)).alloc (.cells #[.int .i64 N4, .slice a41 n41 c41, .slice a42 n42 c42] 47) = w5 := ⟨_, rfl⟩
    have hbw5 : Below w4.heap.size w4 w5 := by rw [← hw5]; exact balloc (balloc (bnil w4) _) _
    have T15 := T14.up hbw5
    clear T14
    have T16 := T15.add (fun wv => wv.cell? ⟨w4.heap.size, 0, none⟩ = some (.int .i64 w0) ∧ wv.cell? ⟨w4.heap.size, 1, none⟩ = some (.int .i64 h0) ∧ wv.cell? ⟨w4.heap.size, 2, none⟩ = some (.slice a4 n4 c4)) (by rw [← hw5]; exact ⟨al000 (cnw (by simp) rfl), al000 (cnw (by simp) rfl), al000 (cnw (by simp) rfl)⟩)
    clear T15
    have T17 := T16.add (fun wv => wv.cell? ⟨w4.heap.size + 1, 0, none⟩ = some (.int .i64 N4) ∧ wv.cell? ⟨w4.heap.size + 1, 1, none⟩ = some (.slice a41 n41 c41) ∧ wv.cell? ⟨w4.heap.size + 1, 2, none⟩ = some (.slice a42 n42 c42)) (by rw [← hw5]; exact ⟨cnw (by simp) rfl, cnw (by simp) rfl, cnw (by simp) rfl⟩)
    clear T16
    have Hw5 := Lib.hid hw5
    clear hw5 hbw5
    have v_x0 : ((w4.alloc (.cells #[.int .i64 w0, .int .i64 h0, .slice a4 n4 c4] 24)).alloc (.cells #[.int .i64 N4, .slice a41 n41 c41, .slice a42 n42 c42] 47)).cell? ⟨w2.heap.size, 0, none⟩ = some (.int .i64 w0) := by rw [Hw5.out]; exact T17.out.1.1.1.1.2.1
    have v_x1 : ((w4.alloc (.cells #[.int .i64 w0, .int .i64 h0, .slice a4 n4 c4] 24)).alloc (.cells #[.int .i64 N4, .slice a41 n41 c41, .slice a42 n42 c42] 47)).cell? ⟨w2.heap.size, 1, none⟩ = some (.int .i64 h0) := by rw [Hw5.out]; exact T17.out.1.1.1.1.2.2.1
    have v_x2 : ((w4.alloc (.cells #[.int .i64 w0, .int .i64 h0, .slice a4 n4 c4] 24)).alloc (.cells #[.int .i64 N4, .slice a41 n41 c41, .slice a42 n42 c42] 47)).cell? ⟨w2.heap.size, 2, none⟩ = some (.slice a2 n2 c2) := by rw [Hw5.out]; exact T17.out.1.1.1.1.2.2.2
    have v_y0 : ((w4.alloc (.cells #[.int .i64 w0, .int .i64 h0, .slice a4 n4 c4] 24)).alloc (.cells #[.int .i64 N4, .slice a41 n41 c41, .slice a42 n42 c42] 47)).cell? ⟨w4.heap.size, 0, none⟩ = some (.int .i64 w0) := by rw [Hw5.out]; exact T17.out.1.2.1
    have v_y1 : ((w4.alloc (.cells #[.int .i64 w0, .int .i64 h0, .slice a4 n4 c4] 24)).alloc (.cells #[.int .i64 N4, .slice a41 n41 c41, .slice a42 n42 c42] 47)).cell? ⟨w4.heap.size, 1, none⟩ = some (.int .i64 h0) := by rw [Hw5.out]; exact T17.out.1.2.2.1
    have v_y2 : ((w4.alloc (.cells #[.int .i64 w0, .int .i64 h0, .slice a4 n4 c4] 24)).alloc (.cells #[.int .i64 N4, .slice a41 n41 c41, .slice a42 n42 c42] 47)).cell? ⟨w4.heap.size, 2, none⟩ = some (.slice a4 n4 c4) := by rw [Hw5.out]; exact T17.out.1.2.2.2
    go_wp2_with fail
    rw [Hw5.out]
    refine (patches_eq w0 h0 a2 a4 n2 n4 c2 c4 cs w5 T17.out.1.1.1.1.1.2 T17.out.1.1.1.2 hl2).mono ?_; rintro e w6 ⟨rfl, hbw6⟩
    clear v_x0 v_x1 v_x2 v_y0 v_y1 v_y2
    have T18 := T17.up hbw6
    clear T17
    have v_f0 : w6.cell? ⟨w4.heap.size + 1, 0, none⟩ = some (.int .i64 N4) := T18.out.2.1
    have v_f1 : w6.cell? ⟨w4.heap.size + 1, 1, none⟩ = some (.slice a41 n41 c41) := T18.out.2.2.1
    have v_f2 : w6.cell? ⟨w4.heap.size + 1, 2, none⟩ = some (.slice a42 n42 c42) := T18.out.2.2.2
    go_wp2_with fail
    refine (rawIs_ch .nilIface (.agg #[.int .i64 N4, .slice a41 n41 c41, .slice a42 n42 c42]) none w6 R T18.out.1.1.1.1.1.1.1.1.1.2 rfl T18.out.1.1.2).mono ?_; rintro e w7 ⟨rfl, hbw7⟩
    clear v_f0 v_f1 v_f2
    have T19 := T18.up hbw7
    clear T18
    have v_x0 : w7.cell? ⟨w2.heap.size, 0, none⟩ = some (.int .i64 w0) := T19.out.1.1.1.1.2.1
    have v_x1 : w7.cell? ⟨w2.heap.size, 1, none⟩ = some (.int .i64 h0) := T19.out.1.1.1.1.2.2.1
    have v_x2 : w7.cell? ⟨w2.heap.size, 2, none⟩ = some (.slice a2 n2 c2) := T19.out.1.1.1.1.2.2.2
    go_wp2_with fail
    refine (text_okQ w0 h0 w0 h0 s a2 n2 c2 cs w7 R (T19.out.1.1.1.1.1.1.1.1.1.2).sent T19.out.1.1.1.1.1.2 hn2 HPT.out.1 rfl rfl HPT.out.2).mono ?_; rintro e w8 ⟨rfl, hbw8⟩
    clear v_x0 v_x1 v_x2
    have T20 := T19.up hbw8
    clear T19
    have v_x0 : w8.cell? ⟨w2.heap.size, 0, none⟩ = some (.int .i64 w0) := T20.out.1.1.1.1.2.1
    have v_x1 : w8.cell? ⟨w2.heap.size, 1, none⟩ = some (.int .i64 h0) := T20.out.1.1.1.1.2.2.1
    have v_x2 : w8.cell? ⟨w2.heap.size, 2, none⟩ = some (.slice a2 n2 c2) := T20.out.1.1.1.1.2.2.2
    go_wp2_with fail
    refine (pcheck_okQ w0 h0 w0 h0 a2 n2 c2 cs w8 R (T20.out.1.1.1.1.1.1.1.1.1.2).sent T20.out.1.1.1.1.1.2 hn2 HPT.out.1 rfl rfl).mono ?_; rintro e w9 ⟨rfl, hbw9⟩
    clear v_x0 v_x1 v_x2
    have T21 := T20.up hbw9
    clear T20
    cases hpe : patchErr w h l with
    | some y =>
      have HPE := Lib.hid hpe
      clear hpe
      have v_p0 : w9.cell? ⟨W.heap.size, 0, none⟩ = some (.int .i64 w) := T21.out.1.1.1.1.1.1.2.1
      have v_p1 : w9.cell? ⟨W.heap.size, 1, none⟩ = some (.int .i64 h) := T21.out.1.1.1.1.1.1.2.2.1
      have v_p2 : w9.cell? ⟨W.heap.size, 2, none⟩ = some (.slice a n c) := T21.out.1.1.1.1.1.1.2.2.2
      go_wp2_with fail
      refine (text_erQ w h a n c l w9 R (T21.out.1.1.1.1.1.1.1.1.1.2).sent (T21.out.1.1.1.1.1.1.1.2).rk hnm HI6.out y HPE.out).mono ?_; rintro e x1 ⟨t1, p1, rfl, hbx1⟩
      clear v_p0 v_p1 v_p2
      have T22 := T21.up hbx1
      clear T21
      have v_p0 : x1.cell? ⟨W.heap.size, 0, none⟩ = some (.int .i64 w) := T22.out.1.1.1.1.1.1.2.1
      have v_p1 : x1.cell? ⟨W.heap.size, 1, none⟩ = some (.int .i64 h) := T22.out.1.1.1.1.1.1.2.2.1
      have v_p2 : x1.cell? ⟨W.heap.size, 2, none⟩ = some (.slice a n c) := T22.out.1.1.1.1.1.1.2.2.2
      go_wp2_with fail
      refine (pcheck_er w h a n c l x1 R (T22.out.1.1.1.1.1.1.1.1.1.2).sent (T22.out.1.1.1.1.1.1.1.2).rk hnm HI6.out y HPE.out).mono ?_; rintro e x2 ⟨g1, rfl, _, hbx2⟩
      clear v_p0 v_p1 v_p2
      have T23 := T22.up hbx2
      clear T22
      go_wp2
      go_ret
      exact ⟨rfl, T23.out.1.1.1.1.1.1.1.1.1.1.2⟩
    | none =>
      obtain ⟨w1, h1, hw1, hh1, hp⟩ := patchErr_none hpe
      obtain ⟨TX, hTX⟩ : ∃ TX, (⟨(textP w1 h1 l).toArray⟩ : ByteArray) = TX := ⟨_, rfl⟩
      have htp := text_par hp
      rw [hTX] at htp
      have HTP := Lib.hid htp
      have HTX := Lib.hid (And.intro hp (And.intro hw1.symm (And.intro hh1.symm hTX)))
      have q1 : Hid (((wid TX : Nat) : Int) = w) := by show _ = _; rw [htp.2.1]; exact hw1.symm
      have q2 : Hid ((((lnsB TX).length : Nat) : Int) = h) := by show _ = _; rw [htp.2.2.1]; exact hh1.symm
      clear hpe hw1 hh1 hp hTX htp
      have v_p0 : w9.cell? ⟨W.heap.size, 0, none⟩ = some (.int .i64 w) := T21.out.1.1.1.1.1.1.2.1
      have v_p1 : w9.cell? ⟨W.heap.size, 1, none⟩ = some (.int .i64 h) := T21.out.1.1.1.1.1.1.2.2.1
      have v_p2 : w9.cell? ⟨W.heap.size, 2, none⟩ = some (.slice a n c) := T21.out.1.1.1.1.1.1.2.2.2
      go_wp2_with fail
      refine (text_okQ w1 h1 w h TX a n c l w9 R (T21.out.1.1.1.1.1.1.1.1.1.2).sent (T21.out.1.1.1.1.1.1.1.2).rk hnm HTX.out.1 HTX.out.2.1 HTX.out.2.2.1 HTX.out.2.2.2).mono ?_; rintro e x1 ⟨rfl, hbx1⟩
      clear v_p0 v_p1 v_p2
      have T22 := T21.up hbx1
      clear T21
      go_wp2_with fail
      refine (parse_okQ TX w h l x1 R (T22.out.1.1.1.1.1.1.1.1.1.2).sent m T22.out.1.1.1.1.1.1.1.1.2 HTP.out.1 q1.out q2.out HTP.out.2.2.2).mono ?_; rintro e x2 ⟨a9, n9, c9, rfl, ho9, hbx2⟩
      have T23 := T22.up hbx2
      clear T22
      have T24 := T23.add (fun wv => RK .i64 wv a9 n9 l) (ho9.rk)
      clear T23
      have hl9 := ho9.lmT.2
      clear ho9
      obtain ⟨x3, hx3⟩ : ∃ x3, x2.alloc (.cells #[.int .i64 w, .int .i64 h, .slice a9 n9 c9] 24) = x3 := ⟨_, rfl⟩
      have hbx3 : Below x2.heap.size x2 x3 := by rw [← hx3]; exact balloc (bnil x2) _
      have T25 := T24.up hbx3
      clear T24
      have T26 := T25.add (fun wv => wv.cell? ⟨x2.heap.size, 0, none⟩ = some (.int .i64 w) ∧ wv.cell? ⟨x2.heap.size, 1, none⟩ = some (.int .i64 h) ∧ wv.cell? ⟨x2.heap.size, 2, none⟩ = some (.slice a9 n9 c9)) (by rw [← hx3]; exact ⟨cnw (by simp) rfl, cnw (by simp) rfl, cnw (by simp) rfl⟩)
      clear T25
      have Hx3 := Lib.hid hx3
      clear hx3 hbx3
      have v_z0 : (x2.alloc (.cells #[.int .i64 w, .int .i64 h, .slice a9 n9 c9] 24)).cell? ⟨x2.heap.size, 0, none⟩ = some (.int .i64 w) := by rw [Hx3.out]; exact T26.out.2.1
      have v_z1 : (x2.alloc (.cells #[.int .i64 w, .int .i64 h, .slice a9 n9 c9] 24)).cell? ⟨x2.heap.size, 1, none⟩ = some (.int .i64 h) := by rw [Hx3.out]; exact T26.out.2.2.1
      have v_z2 : (x2.alloc (.cells #[.int .i64 w, .int .i64 h, .slice a9 n9 c9] 24)).cell? ⟨x2.heap.size, 2, none⟩ = some (.slice a9 n9 c9) := by rw [Hx3.out]; exact T26.out.2.2.2
      have v_p0 : (x2.alloc (.cells #[.int .i64 w, .int .i64 h, .slice a9 n9 c9] 24)).cell? ⟨W.heap.size, 0, none⟩ = some (.int .i64 w) := by rw [Hx3.out]; exact T26.out.1.1.1.1.1.1.1.1.2.1
      have v_p1 : (x2.alloc (.cells #[.int .i64 w, .int .i64 h, .slice a9 n9 c9] 24)).cell? ⟨W.heap.size, 1, none⟩ = some (.int .i64 h) := by rw [Hx3.out]; exact T26.out.1.1.1.1.1.1.1.1.2.2.1
      have v_p2 : (x2.alloc (.cells #[.int .i64 w, .int .i64 h, .slice a9 n9 c9] 24)).cell? ⟨W.heap.size, 2, none⟩ = some (.slice a n c) := by rw [Hx3.out]; exact T26.out.1.1.1.1.1.1.1.1.2.2.2
      go_wp2_with fail
      rw [Hx3.out]
      refine (patches_eq w h a9 a n9 n c9 c l x3 T26.out.1.2 (T26.out.1.1.1.1.1.1.1.1.1.2).rk hl9).mono ?_; rintro e x4 ⟨rfl, hbx4⟩
      clear v_z0 v_z1 v_z2 v_p0 v_p1 v_p2
      have T27 := T26.up hbx4
      clear T26
      go_wp2
      go_ret
      exact ⟨rfl, T27.out.1.1.1.1.1.1.1.1.1.1.1.1.2⟩
end Go.Proofs.YtnlpobkmjhajcaaDoor
