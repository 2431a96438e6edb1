/- edenlaw24.JudgeColumns returns true. -/
import Derived.Test.YtocfkmdoalhjmaaDoorRjC
import Derived.Test.YtocfkmdoalhjmaaDoorJdgG
import Derived.Test.YtocfkmdoalhjmaaDoorPlaI
import Derived.Test.YtocfkmdoalhjmaaDoorLentE
namespace Go.Proofs.YtocfkmdoalhjmaaDoor
open Go.RowKit
set_option linter.unusedVariables false
set_option maxRecDepth 100000

theorem join3_ok {h a b c : Nat} (h1 : 1 ≤ h) (h4 : h ≤ 4) (ha : a < 4 * 2 ^ h) (hb : b < 4 * 2 ^ h) (hc : c < 4 * 2 ^ h) : JoinOk (h + 2) [(a : Int), (b : Int), (c : Int)] := by
  have e : ((2 : Int) ^ (h + 2)) = ((4 * 2 ^ h : Nat) : Int) := by
    have h2 : (2 : Nat) ^ (h + 2) = 4 * 2 ^ h := by rw [Nat.pow_add]; omega
    rw [← h2, Int.natCast_pow]; rfl
  refine ⟨by omega, by omega, by simp, by simp, fun x hx => ?_⟩
  have hx2 : x = (a : Int) ∨ x = (b : Int) ∨ x = (c : Int) := by simpa using hx
  rw [e]
  rcases hx2 with rfl | rfl | rfl <;> omega
theorem join3 {h a b c : Nat} (h1 : 1 ≤ h) (h4 : h ≤ 4) (ha : a < 4 * 2 ^ h) (hb : b < 4 * 2 ^ h) (hc : c < 4 * 2 ^ h) :
    joinD ((h + 2 : Nat) : Int) [(a : Int), (b : Int), (c : Int)] = none ∧ joinO ((h + 2 : Nat) : Int) [(a : Int), (b : Int), (c : Int)] = (3, ((h + 2 : Nat) : Int), joinL (h + 2) [(a : Int), (b : Int), (c : Int)]) := by
  have hd := joinD_of (join3_ok h1 h4 ha hb hc)
  exact ⟨hd, by unfold joinO; rw [if_pos hd]; rfl⟩
theorem cols3 {t : List Int} {h a b c : Nat} (ht : IsTab t) (h1 : 1 ≤ h) (h4 : h ≤ 4) (ha : a < 4 * 2 ^ h) (hb : b < 4 * 2 ^ h) (hc : c < 4 * 2 ^ h) :
    let L := joinL (h + 2) [(a : Int), (b : Int), (c : Int)]
    stepD t 3 ((h + 2 : Nat) : Int) L = none ∧ stepO t 3 ((h + 2 : Nat) : Int) L = (1, (h : Int), stepL t 3 (h + 2) L) ∧ colD 1 (h : Int) (stepL t 3 (h + 2) L) = none ∧ colO 1 (h : Int) (stepL t 3 (h + 2) L) = [((madeV t a b c h : Nat) : Int)] ∧ I64 L ∧ I64 (stepL t 3 (h + 2) L) := by
  intro L
  have hj := join3_ok h1 h4 ha hb hc
  have hp : IsPatch 3 (h + 2) L := join_patch hj
  have hq : IsPatch (3 - 2) (h + 2 - 2) (stepL t 3 (h + 2) L) := stepL_patch hp ht.len ht.sym (by omega) (by omega)
  have hq1 : IsPatch 1 h (stepL t 3 (h + 2) L) := hq
  have hd : stepD t 3 ((h + 2 : Nat) : Int) L = none := by
    have hpe : patchErr 3 ((h + 2 : Nat) : Int) L = none := patchErr_of hp
    unfold stepD patchD
    rw [tabD_of ht, hpe]
    exact if_neg (by omega)
  have hcd : colD 1 (h : Int) (stepL t 3 (h + 2) L) = none := by
    unfold colD
    rw [show patchErr 1 (h : Int) (stepL t 3 (h + 2) L) = none from patchErr_of hq1]
    exact if_neg (by omega)
  have hv := step_pred (w := 1) hp ht
  have hcj := col_join hj
  have cv : ∀ x, x < 3 → (colV 3 L x (h + 2) : Int) = [(a : Int), (b : Int), (c : Int)].getD x 0 := fun x hx => by
    rw [← colL_getD (l := L) (h := h + 2) hx]
    exact congrArg (fun l => l.getD x 0) hcj
  have c0 : colV 3 L 0 (h + 2) = a := by have := cv 0 (by omega); simp at this; omega
  have c1 : colV 3 L 1 (h + 2) = b := by have := cv 1 (by omega); simp at this; omega
  have c2 : colV 3 L 2 (h + 2) = c := by have := cv 2 (by omega); simp at this; omega
  have hm := hv.mks 0 (by omega)
  simp only [Nat.zero_add] at hm
  rw [show (1 : Nat) + 2 = 3 from rfl, c0, c1, c2] at hm
  have hx1 := colV_lt hq1 (show 0 < 1 by omega) h (Nat.le_refl _)
  have hg : ((colL 1 h (stepL t 3 (h + 2) L)).getD 0 0).toNat = colV 1 (stepL t 3 (h + 2) L) 0 h := by rw [colL_getD (by omega), Int.toNat_natCast]
  rw [hg] at hm
  have hall := looksF_all (t := t) (a := a) (b := b) (c := c) (want := colV 1 (stepL t 3 (h + 2) L) 0 h) h 0 |>.1 hm
  have hmv := madeV_of (t := t) (a := a) (b := b) (c := c) (x := colV 1 (stepL t 3 (h + 2) L) 0 h) h (fun j hj => by have := hall j hj; rwa [Nat.zero_add] at this)
  rw [Nat.mod_eq_of_lt hx1] at hmv
  refine ⟨hd, ?_, hcd, ?_, ?_, ?_⟩
  · unfold stepO
    rw [if_pos hd]
    have e1 : ((h + 2 : Nat) : Int) - 2 = (h : Int) := by omega
    rw [e1, Int.toNat_natCast]
    rfl
  · unfold colO
    rw [if_pos hcd, hmv]
    rfl
  · intro x hx; rcases hp.sym x hx with h | h <;> omega
  · intro x hx; rcases hq1.sym x hx with h | h <;> omega
set_option maxHeartbeats 16000000 in
theorem judge_cols (h a b c : Int) (aT : Option Addr) (nT cT : Nat) (t : List Int) (W : World) (R : Nat → Addr) (hE : Env W R) (hT : RK .i64 W aT nT t) (h8T : nT * 8 ≤ 140737488351232) :
    Calls Tryd.prog 14 #[.slice aT nT cT, .int .i64 h, .int .i64 a, .int .i64 b, .int .i64 c] W (TrueBelow W) := by
  have hmT : nT ≤ maxLen := by unfold maxLen; omega
  have hmT2 : nT + 2 ≤ maxLen := by unfold maxLen; omega
  have T0 := Tk.nil W
  have T1 := T0.add (fun wv => Below W.heap.size W wv) (bnil W)
  clear T0
  have T2 := T1.add (fun wv => Env wv R) (hE)
  clear T1
  have T3 := T2.add (fun wv => RK .i64 wv aT nT t) (hT)
  clear T2
  clear hE hT
  cases hjd : jcD t h a b c with
  | some x =>
    have HJ := Lib.hid (And.intro (jcO_er hjd) hjd)
    clear hjd
    go_enter Tryd.func14, Tryd.ntmps14
    go_wp2_with fail
    refine (awake24_any W R T3.out.1.2).mono ?_; rintro e w0 ⟨rfl, hbw0⟩
    have T4 := T3.up hbw0
    clear T3
    go_wp2_with fail
    refine (lent_ex aT nT cT t w0 T4.out.2 h8T).mono ?_; rintro e w1 ⟨gt, ct, rfl, rfl, hot, hbw1⟩
    have T5 := T4.up hbw1
    clear T4
    have T6 := T5.add (fun wv => LentM wv gt nT t) (hot.rk)
    clear T5
    clear hot
    go_wp2_with fail
    refine (jcolumn_any h a b c (some ⟨gt, 0, none⟩) nT (nT + 2) t w1 R (T6.out.1.1.2).sent ((T6.out.2).sl h8T).rk hmT).mono ?_; rintro e w2 ⟨ev2, rfl, he2, hbw2⟩
    have T7 := T6.up hbw2
    clear T6
    rw [HJ.out.2] at he2
    have T8 := T7.add (fun wv => EC R wv ev2 (some x)) (he2)
    clear T7
    rw [HJ.out.1]
    go_wp2_with fail
    refine (refcolumn_any h a b c aT nT cT t w2 T8.out.1.1.2 hmT).mono ?_; rintro e w3 ⟨N6, a61, n61, c61, a62, n62, c62, rfl, hw6, hn6, hbw3⟩
    have T9 := T8.up hbw3
    clear T8
    simp only [HJ.out.2] at hw6
    simp only [HJ.out.1]
    have T10 := T9.add (fun wv => WC wv (.agg #[.int .i64 N6, .slice a61 n61 c61, .slice a62 n62 c62]) (some x)) (hw6)
    clear T9
    clear hw6 hn6
    obtain ⟨wa, hwa⟩ : ∃ wa, w3.alloc (.cells #[.int .i64 N6, .slice a61 n61 c61, .slice a62 n62 c62] 48) = wa := ⟨_, rfl⟩
    have hbwa : Below w3.heap.size w3 wa := by rw [← hwa]; exact balloc (bnil w3) _
    have T11 := T10.up hbwa
    clear T10
    have T12 := T11.add (fun wv => wv.cell? ⟨w3.heap.size, 0, none⟩ = some (.int .i64 N6) ∧ wv.cell? ⟨w3.heap.size, 1, none⟩ = some (.slice a61 n61 c61) ∧ wv.cell? ⟨w3.heap.size, 2, none⟩ = some (.slice a62 n62 c62)) (by rw [← hwa]; exact ⟨cnw (by simp) rfl, cnw (by simp) rfl, cnw (by simp) rfl⟩)
    clear T11
    have Hwa := Lib.hid hwa
    clear hwa hbwa
    have v_f0 : (w3.alloc (.cells #[.int .i64 N6, .slice a61 n61 c61, .slice a62 n62 c62] 48)).cell? ⟨w3.heap.size, 0, none⟩ = some (.int .i64 N6) := by rw [Hwa.out]; exact T12.out.2.1
    have v_f1 : (w3.alloc (.cells #[.int .i64 N6, .slice a61 n61 c61, .slice a62 n62 c62] 48)).cell? ⟨w3.heap.size, 1, none⟩ = some (.slice a61 n61 c61) := by rw [Hwa.out]; exact T12.out.2.2.1
    have v_f2 : (w3.alloc (.cells #[.int .i64 N6, .slice a61 n61 c61, .slice a62 n62 c62] 48)).cell? ⟨w3.heap.size, 2, none⟩ = some (.slice a62 n62 c62) := by rw [Hwa.out]; exact T12.out.2.2.2
    go_wp2_with fail
    rw [Hwa.out]
    refine (rawIs_ch ev2 (.agg #[.int .i64 N6, .slice a61 n61 c61, .slice a62 n62 c62]) (some x) wa R T12.out.1.1.1.1.1.2 T12.out.1.1.2 T12.out.1.2).mono ?_; rintro e wb ⟨rfl, hbwb⟩
    clear v_f0 v_f1 v_f2
    have T13 := T12.up hbwb
    clear T12
    go_wp2_with fail
    refine (kept_any gt nT (nT + 2) cT aT t wb T13.out.1.1.1.2 (Nat.le_refl _) hmT2 T13.out.1.1.1.1.2 h8T).mono ?_; rintro e wc ⟨rfl, hbwc⟩
    have T14 := T13.up hbwc
    clear T13
    obtain ⟨t9, p9, rfl⟩ := Chain.iface he2
    clear he2
    go_wp2
    go_ret
    exact ⟨rfl, T14.out.1.1.1.1.1.1.2⟩
  | none =>
    obtain ⟨h, a, b, c, rfl, rfl, rfl, rfl, ht, h1, h4, ha, hb, hc⟩ := jcD_none hjd
    have hoo : jcO t h a b c = madeV t a b c h := by unfold jcO; rw [if_pos hjd]; simp only [Int.toNat_natCast]
    have hj3 := join3 h1 h4 ha hb hc
    have hc3 := cols3 ht h1 h4 ha hb hc
    have hLL : (joinL (h + 2) [(a : Int), (b : Int), (c : Int)]).length ≤ 100 := by
      have hp := (join_patch (join3_ok h1 h4 ha hb hc)).len
      have h3 : [(a : Int), (b : Int), (c : Int)].length = 3 := rfl
      rw [h3] at hp
      omega
    obtain ⟨H, hH⟩ : ∃ H, h + 2 = H := ⟨_, rfl⟩
    obtain ⟨MV, hMV⟩ : ∃ MV, madeV t a b c h = MV := ⟨_, rfl⟩
    rw [hH] at hj3
    simp only [hH, hMV] at hc3
    rw [hMV] at hoo
    obtain ⟨L, hL⟩ : ∃ L, joinL H [(a : Int), (b : Int), (c : Int)] = L := ⟨_, rfl⟩
    rw [hH, hL] at hLL
    have HLL := Lib.hid hLL
    rw [hL] at hj3 hc3
    obtain ⟨S, hS⟩ : ∃ S, stepL t 3 H L = S := ⟨_, rfl⟩
    rw [hS] at hc3
    obtain ⟨k1, k2, k3, k4, k5, k6⟩ := hc3
    have HJ := Lib.hid (And.intro hoo hjd)
    have HJ3 := Lib.hid hj3
    have HK := Lib.hid (And.intro k1 (And.intro k2 (And.intro k3 (And.intro k4 (And.intro k5 k6)))))
    have hHI : (h : Int) + 2 = (H : Int) := by omega
    have hHw : IntKind.i64.wrap (H : Int) = (H : Int) := IntWalk.i64_in _ (by omega)
    clear hLL hjd hoo hj3 hH hMV hL hS k1 k2 k3 k4 k5 k6 ht
    go_enter Tryd.func14, Tryd.ntmps14
    go_wp2_with fail
    refine (awake24_any W R T3.out.1.2).mono ?_; rintro e w0 ⟨rfl, hbw0⟩
    have T4 := T3.up hbw0
    clear T3
    go_wp2_with fail
    refine (lent_ex aT nT cT t w0 T4.out.2 h8T).mono ?_; rintro e w1 ⟨gt, ct, rfl, rfl, hot, hbw1⟩
    have T5 := T4.up hbw1
    clear T4
    have T6 := T5.add (fun wv => LentM wv gt nT t) (hot.rk)
    clear T5
    clear hot
    go_wp2_with fail
    refine (jcolumn_any h a b c (some ⟨gt, 0, none⟩) nT (nT + 2) t w1 R (T6.out.1.1.2).sent ((T6.out.2).sl h8T).rk hmT).mono ?_; rintro e w2 ⟨ev2, rfl, he2, hbw2⟩
    have T7 := T6.up hbw2
    clear T6
    rw [HJ.out.2] at he2
    have T8 := T7.add (fun wv => EC R wv ev2 (none)) (he2)
    clear T7
    rw [HJ.out.1]
    go_wp2_with fail
    refine (refcolumn_any h a b c aT nT cT t w2 T8.out.1.1.2 hmT).mono ?_; rintro e w3 ⟨N6, a61, n61, c61, a62, n62, c62, rfl, hw6, hn6, hbw3⟩
    have T9 := T8.up hbw3
    clear T8
    simp only [HJ.out.2] at hw6
    simp only [HJ.out.1]
    have T10 := T9.add (fun wv => WC wv (.agg #[.int .i64 N6, .slice a61 n61 c61, .slice a62 n62 c62]) (none)) (hw6)
    clear T9
    clear hw6 hn6
    obtain ⟨wa, hwa⟩ : ∃ wa, w3.alloc (.cells #[.int .i64 N6, .slice a61 n61 c61, .slice a62 n62 c62] 48) = wa := ⟨_, rfl⟩
    have hbwa : Below w3.heap.size w3 wa := by rw [← hwa]; exact balloc (bnil w3) _
    have T11 := T10.up hbwa
    clear T10
    have T12 := T11.add (fun wv => wv.cell? ⟨w3.heap.size, 0, none⟩ = some (.int .i64 N6) ∧ wv.cell? ⟨w3.heap.size, 1, none⟩ = some (.slice a61 n61 c61) ∧ wv.cell? ⟨w3.heap.size, 2, none⟩ = some (.slice a62 n62 c62)) (by rw [← hwa]; exact ⟨cnw (by simp) rfl, cnw (by simp) rfl, cnw (by simp) rfl⟩)
    clear T11
    have Hwa := Lib.hid hwa
    clear hwa hbwa
    have v_f0 : (w3.alloc (.cells #[.int .i64 N6, .slice a61 n61 c61, .slice a62 n62 c62] 48)).cell? ⟨w3.heap.size, 0, none⟩ = some (.int .i64 N6) := by rw [Hwa.out]; exact T12.out.2.1
    have v_f1 : (w3.alloc (.cells #[.int .i64 N6, .slice a61 n61 c61, .slice a62 n62 c62] 48)).cell? ⟨w3.heap.size, 1, none⟩ = some (.slice a61 n61 c61) := by rw [Hwa.out]; exact T12.out.2.2.1
    have v_f2 : (w3.alloc (.cells #[.int .i64 N6, .slice a61 n61 c61, .slice a62 n62 c62] 48)).cell? ⟨w3.heap.size, 2, none⟩ = some (.slice a62 n62 c62) := by rw [Hwa.out]; exact T12.out.2.2.2
    go_wp2_with fail
    rw [Hwa.out]
    refine (rawIs_ch ev2 (.agg #[.int .i64 N6, .slice a61 n61 c61, .slice a62 n62 c62]) (none) wa R T12.out.1.1.1.1.1.2 T12.out.1.1.2 T12.out.1.2).mono ?_; rintro e wb ⟨rfl, hbwb⟩
    clear v_f0 v_f1 v_f2
    have T13 := T12.up hbwb
    clear T12
    go_wp2_with fail
    refine (kept_any gt nT (nT + 2) cT aT t wb T13.out.1.1.1.2 (Nat.le_refl _) hmT2 T13.out.1.1.1.1.2 h8T).mono ?_; rintro e wc ⟨rfl, hbwc⟩
    have T14 := T13.up hbwc
    clear T13
    obtain rfl : ev2 = .nilIface := he2
    obtain ⟨wd, hwd⟩ : ∃ wd, wc.alloc (.cells #[.int .i64 (a : Nat), .int .i64 (b : Nat), .int .i64 (c : Nat)] 3) = wd := ⟨_, rfl⟩
    have hbwd : Below wc.heap.size wc wd := by rw [← hwd]; exact balloc (bnil wc) _
    have T15 := T14.up hbwd
    clear T14
    have Hwd := Lib.hid hwd
    clear hwd hbwd
    have hlr : RK .i64 wd (some ⟨wc.heap.size, 0, none⟩) 3 [(a : Int), (b : Int), (c : Int)] := by rw [← Hwd.out]; exact litRK3 wc [(a : Int), (b : Int), (c : Int)]
    have T16 := T15.add (fun wv => RK .i64 wv (some ⟨wc.heap.size, 0, none⟩) 3 [(a : Int), (b : Int), (c : Int)]) (hlr)
    clear T15
    clear hlr
    go_wp2_with fail
    rw [Hwd.out]
    refine (join_any H (some ⟨wc.heap.size, 0, none⟩) 3 3 [(a : Int), (b : Int), (c : Int)] wd R (T16.out.1.1.1.1.1.1.2).sent T16.out.2 (by unfold maxLen; omega)).mono ?_; rintro e we ⟨a7, n7, c7, ev7, rfl, ho7, he7, hbwe⟩
    have T17 := T16.up hbwe
    clear T16
    rw [HJ3.out.1] at he7
    rw [HJ3.out.2] at ho7
    rw [HJ3.out.2]
    obtain rfl : ev7 = .nilIface := he7
    have T18 := T17.add (fun wv => OwI wv wd.heap.size a7 n7 c7 L) (ho7)
    clear T17
    clear ho7
    obtain ⟨wf, hwf⟩ : ∃ wf, we.alloc (.cells #[.int .i64 3, .int .i64 (H : Nat), .slice a7 n7 c7] 24) = wf := ⟨_, rfl⟩
    have hbwf : Below we.heap.size we wf := by rw [← hwf]; exact balloc (bnil we) _
    have T19 := T18.up hbwf
    clear T18
    have T20 := T19.add (fun wv => wv.cell? ⟨we.heap.size, 0, none⟩ = some (.int .i64 3) ∧ wv.cell? ⟨we.heap.size, 1, none⟩ = some (.int .i64 (H : Nat)) ∧ wv.cell? ⟨we.heap.size, 2, none⟩ = some (.slice a7 n7 c7)) (by rw [← hwf]; exact ⟨cnw (by simp) rfl, cnw (by simp) rfl, cnw (by simp) rfl⟩)
    clear T19
    have Hwf := Lib.hid hwf
    clear hwf hbwf
    have hn7 : n7 * 8 ≤ 140737488351232 := by
      have h2 : n7 = L.length := (T20.out.1.2).rk.len
      have h5 := HLL.out
      omega
    have v_p0 : (we.alloc (.cells #[.int .i64 3, .int .i64 (H : Nat), .slice a7 n7 c7] 24)).cell? ⟨we.heap.size, 0, none⟩ = some (.int .i64 3) := by rw [Hwf.out]; exact T20.out.2.1
    have v_p1 : (we.alloc (.cells #[.int .i64 3, .int .i64 (H : Nat), .slice a7 n7 c7] 24)).cell? ⟨we.heap.size, 1, none⟩ = some (.int .i64 (H : Nat)) := by rw [Hwf.out]; exact T20.out.2.2.1
    have v_p2 : (we.alloc (.cells #[.int .i64 3, .int .i64 (H : Nat), .slice a7 n7 c7] 24)).cell? ⟨we.heap.size, 2, none⟩ = some (.slice a7 n7 c7) := by rw [Hwf.out]; exact T20.out.2.2.2
    go_wp2_with fail
    rw [Hwf.out]
    refine (plstep_any 3 H a7 aT n7 c7 nT cT L t wf R (T20.out.1.1.1.1.1.1.1.1.2).sent ((T20.out.1.2).sl hn7) HK.out.2.2.2.2.1 T20.out.1.1.1.1.1.1.1.2 hmT).mono ?_; rintro e wg ⟨a8, n8, c8, ev8, rfl, ho8, he8, hbwg⟩
    clear v_p0 v_p1 v_p2
    have T21 := T20.up hbwg
    clear T20
    rw [HK.out.1] at he8
    rw [HK.out.2.1] at ho8
    rw [HK.out.2.1]
    obtain rfl : ev8 = .nilIface := he8
    have T22 := T21.add (fun wv => OwI wv wf.heap.size a8 n8 c8 S) (ho8)
    clear T21
    clear ho8
    obtain ⟨wh, hwh⟩ : ∃ wh, wg.alloc (.cells #[.int .i64 1, .int .i64 (h : Nat), .slice a8 n8 c8] 24) = wh := ⟨_, rfl⟩
    have hbwh : Below wg.heap.size wg wh := by rw [← hwh]; exact balloc (bnil wg) _
    have T23 := T22.up hbwh
    clear T22
    have T24 := T23.add (fun wv => wv.cell? ⟨wg.heap.size, 0, none⟩ = some (.int .i64 1) ∧ wv.cell? ⟨wg.heap.size, 1, none⟩ = some (.int .i64 (h : Nat)) ∧ wv.cell? ⟨wg.heap.size, 2, none⟩ = some (.slice a8 n8 c8)) (by rw [← hwh]; exact ⟨cnw (by simp) rfl, cnw (by simp) rfl, cnw (by simp) rfl⟩)
    clear T23
    have Hwh := Lib.hid hwh
    clear hwh hbwh
    have hn8 : n8 ≤ maxLen := by have h2 := (T24.out.1.2).nnc; omega
    have v_q0 : (wg.alloc (.cells #[.int .i64 1, .int .i64 (h : Nat), .slice a8 n8 c8] 24)).cell? ⟨wg.heap.size, 0, none⟩ = some (.int .i64 1) := by rw [Hwh.out]; exact T24.out.2.1
    have v_q1 : (wg.alloc (.cells #[.int .i64 1, .int .i64 (h : Nat), .slice a8 n8 c8] 24)).cell? ⟨wg.heap.size, 1, none⟩ = some (.int .i64 (h : Nat)) := by rw [Hwh.out]; exact T24.out.2.2.1
    have v_q2 : (wg.alloc (.cells #[.int .i64 1, .int .i64 (h : Nat), .slice a8 n8 c8] 24)).cell? ⟨wg.heap.size, 2, none⟩ = some (.slice a8 n8 c8) := by rw [Hwh.out]; exact T24.out.2.2.2
    go_wp2_with fail
    rw [Hwh.out]
    refine (columns_any 1 h a8 n8 c8 S wh R (T24.out.1.1.1.1.1.1.1.1.1.1.2).sent (T24.out.1.2).rk hn8 HK.out.2.2.2.2.2).mono ?_; rintro e wi ⟨a9, n9, c9, ev9, rfl, ho9, he9, hbwi⟩
    clear v_q0 v_q1 v_q2
    have T25 := T24.up hbwi
    clear T24
    rw [HK.out.2.2.1] at he9
    rw [HK.out.2.2.2.1] at ho9
    obtain rfl : ev9 = .nilIface := he9
    have T26 := T25.add (fun wv => OwI wv wh.heap.size a9 n9 c9 [(MV : Int)]) (ho9)
    clear T25
    have hn9 : n9 ≤ maxLen := by have h2 := ho9.nnc; omega
    clear ho9
    obtain ⟨wj, hwj⟩ : ∃ wj, wi.alloc (.cells #[.int .i64 (MV : Nat)] 3) = wj := ⟨_, rfl⟩
    have hbwj : Below wi.heap.size wi wj := by rw [← hwj]; exact balloc (bnil wi) _
    have T27 := T26.up hbwj
    clear T26
    have Hwj := Lib.hid hwj
    clear hwj hbwj
    have hlr : RK .i64 wj (some ⟨wi.heap.size, 0, none⟩) 1 [(MV : Int)] := by rw [← Hwj.out]; exact litRK3 wi [(MV : Int)]
    go_wp2_with fail
    rw [Hwj.out]
    refine (ints_any a9 (some ⟨wi.heap.size, 0, none⟩) n9 1 c9 1 [(MV : Int)] [(MV : Int)] wj (T27.out.2).rk hlr hn9 (by unfold maxLen; omega)).mono ?_; rintro e wk ⟨rfl, q9, hwk⟩
    rw [decide_eq_true rfl]
    have hbk : Below wj.heap.size wj wk := by rw [hwk]; exact bdrewN (bnil wj) q9
    clear hwk
    have T28 := T27.up hbk
    clear T27
    go_wp2
    go_ret
    exact ⟨rfl, T28.out.1.1.1.1.1.1.1.1.1.1.1.1.2⟩
theorem judge_cols_row (aT : Option Addr) (cT : Nat) (t : List Int) (h a b c : Int) (W : World) (R : Nat → Addr) (hE : Env W R)
    (hR0 : Rd W aT t.length 1 (t.map (Value.int .i64))) (hl0 : t.length ≤ cT) (hz0 : cT * 8 ≤ 140737488351232) (hn0 : aT = none → cT = 0) (hx0 : ∀ x ∈ t, -9223372036854775808 ≤ x ∧ x ≤ 9223372036854775807) :
    Calls Tryd.prog 14 #[.slice aT t.length cT, .int .i64 h, .int .i64 a, .int .i64 b, .int .i64 c] W (TrueBelow W) :=
  judge_cols h a b c aT t.length cT t W R hE ⟨rfl, hR0⟩ (by omega)
end Go.Proofs.YtocfkmdoalhjmaaDoor
