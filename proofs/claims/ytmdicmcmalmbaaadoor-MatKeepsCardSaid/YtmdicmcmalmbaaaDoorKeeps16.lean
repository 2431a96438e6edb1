/- The walk of edenlaw16.MatKeeps. -/
import Derived.Test.YtmdicmcmalmbaaaDoorMatP
import Derived.Test.YtmdicmcmalmbaaaDoorMatF
import Derived.Test.YtmdicmcmalmbaaaDoorRawIs
namespace Go.Proofs.YtmdicmcmalmbaaaDoor
open Go.RowKit
set_option linter.unusedVariables false
set_option maxRecDepth 100000

theorem keeps16_out (am : Option Addr) (n c : Nat) (g : Nat → Nat) (F : Nat → Nat → List Nat) (W : World) (R : Nat → Addr) (hG : Glob W R) (hM : MsR W am n g F) (hn : n ≤ maxLen) (hb : ¬ (Light n g F ∧ n ≤ 5 ∧ Square n g)) :
    Calls Tryd.prog 4 #[.slice am n c] W (TrueBelow W) := by
  have hnn : n ≤ 9223372036854775807 := hn
  have HB := Lib.hid hb; clear hb
  have HG := Lib.hid hG; clear hG
  have HM := Lib.hid hM; clear hM
  go_enter Tryd.func4, Tryd.ntmps4
  go_wp2_with fail
  refine (awake16 _).mono ?_; rintro e w1 ⟨rfl, hb1⟩
  go_wp2_with fail
  refine (heavy_any am n c g F _ (HM.out.up hb1) hn).mono ?_; rintro e w2 ⟨b, rfl, hL, rfl⟩
  cases b with
  | true =>
    clear hL
    go_wp2
    go_ret
    exact ⟨rfl, hb1⟩
  | false =>
    have HL := Lib.hid (hL rfl); clear hL
    by_cases h5 : 5 < n
    · go_wp2
      go_ret
      exact ⟨rfl, hb1⟩
    · go_wp2_with fail
      rcases matBad_or n g with hs | ⟨x, hx⟩
      · exact absurd ⟨HL.out, by omega, hs⟩ HB.out
      · refine (mcheck_err am n c g F _ R (HG.out.up hb1) (HM.out.up hb1) hn x hx).mono ?_; rintro e w3 ⟨q, rfl, he3, hb3⟩
        clear he3 hx
        go_wp2
        go_ret
        exact ⟨rfl, bstep hb1 hb3⟩

set_option maxHeartbeats 16000000 in
theorem keeps16_ok (am : Option Addr) (n c : Nat) (g : Nat → Nat) (F : Nat → Nat → List Nat) (W : World) (hM : MsR W am n g F) (hl : Light n g F) (h5 : n ≤ 5) (hs : Square n g) :
    Calls Tryd.prog 4 #[.slice am n c] W (TrueBelow W) := by
  have hlen : ∀ p q, p < n → q < n → (F p q).length ≤ 8 := fun p q hp hq => (hl.2 p hp).2 q (by rw [hs.2 p hp]; exact hq)
  have HLEN := Lib.hid hlen; clear hlen
  have HLL : Hid (∀ i, i < n → g i ≤ 96 ∧ ∀ j, j < g i → (F i j).length ≤ 1000) := fun i hi => ⟨Nat.le_trans (hl.2 i hi).1 (by decide), fun j hj => Nat.le_trans ((hl.2 i hi).2 j hj) (by decide)⟩
  have HBD := Lib.hid (bdM_of (hM.square hs.2) HLEN.out)
  have HM := Lib.hid hM; clear hM
  have HSQ := Lib.hid hs; clear hs
  clear hl
  go_enter Tryd.func4, Tryd.ntmps4
  go_wp2_with fail
  refine (awake16 _).mono ?_; rintro e w1 ⟨rfl, hb1⟩
  go_wp2_with fail
  refine (heavy_any am n c g F _ (HM.out.up hb1) (by unfold maxLen; omega)).mono ?_; rintro e w2 ⟨b, rfl, hL, rfl⟩
  cases b with
  | true =>
    clear hL
    go_wp2
    go_ret
    exact ⟨rfl, hb1⟩
  | false =>
  clear hL
  go_wp2_with fail
  refine (mcheck_ok am n c g F _ (HM.out.up hb1) HSQ.out).mono ?_; rintro e w2 ⟨rfl, rfl⟩
  go_wp2_with fail
  refine (lent16_any am n c g F _ (HM.out.up hb1) (by omega) HLL.out).mono ?_; rintro e w2 ⟨ax, cx, rowsx, itsx, rfl, hX, hb2⟩
  have HX := Lib.hid hX; clear hX
  have HXM := Lib.hid (HX.out.msR.square HSQ.out.2)
  have hb2W := bstep hb1 hb2
  clear hb1 hb2
  go_wp2_with fail
  refine (matPow_ok ax n cx 1 F 8 _ HXM.out (by omega) HLEN.out (by decide) (by decide)).mono ?_; rintro e w3 ⟨a3, c3, rows3, p3, rfl, ho3, hb3⟩
  have HP := Lib.hid ho3; clear ho3
  have HB3 := Lib.hid hb3; clear hb3
  go_wp2_with fail
  refine (matPow_ok ax n cx 0 F 8 _ (HXM.out.up HB3.out) (by omega) HLEN.out (by decide) (by decide)).mono ?_; rintro e w4 ⟨a4, c4, rows4, p4, rfl, ho4, hb4⟩
  have HQ := Lib.hid ho4; clear ho4
  have HB4 := Lib.hid hb4; clear hb4
  go_wp2_with fail
  refine (one_any n _ (by omega)).mono ?_; rintro e w5 ⟨a5, c5, rows5, p5, rfl, ho5, hb5⟩
  have HO := Lib.hid ho5; clear ho5
  have HB5 := Lib.hid hb5; clear hb5
  have HB25 := Lib.hid (bstep (bstep HB3.out HB4.out) HB5.out)
  go_wp2_with fail
  refine (mmul_ok ax a5 n cx c5 F _ 8 _ (HXM.out.up HB25.out) HO.out.msR (by omega) HLEN.out (limbs_bd' (bdM_one n) (by decide)) (by decide)).mono ?_; rintro e w6 ⟨a6, c6, rows6, p6, rfl, ho6, hb6⟩
  have HMM := Lib.hid ho6; clear ho6
  have HB6 := Lib.hid hb6; clear hb6
  go_wp2_with fail
  refine (mtrace_ok ax n cx F 8 _ (HXM.out.up (bstep HB25.out HB6.out)) (by omega) HLEN.out (by decide)).mono ?_; rintro e w7 ⟨a7, n7, c7, rfl, ho7, hb7⟩
  have HT := Lib.hid ho7; clear ho7
  have HB7 := Lib.hid hb7; clear hb7
  have HB27 := Lib.hid (bstep (bstep HB25.out HB6.out) HB7.out)
  -- all of them in the world w7
  have s3 := HB3.out.size
  have s4 := HB4.out.size
  have s5 := HB5.out.size
  have s6 := HB6.out.size
  have s7 := HB7.out.size
  have HP7 := Lib.hid (HP.out.up (bstep (bstep (bstep HB4.out HB5.out) HB6.out) HB7.out))
  have HQ7 := Lib.hid (HQ.out.up (bstep (bstep HB5.out HB6.out) HB7.out))
  have HO7 := Lib.hid (HO.out.up (bstep HB6.out HB7.out))
  have HM7 := Lib.hid (HMM.out.up HB7.out)
  have hF : Four w7 w2.heap.size n (four p3 p4 p5 p6) :=
    Four.mk4 (HP7.out.num' (Nat.le_refl _) (limbs_bd' (bdM_pow (by omega) HBD.out 1) (Nat.le_refl _)) (by decide)) (HQ7.out.num' s3 (limbs_bd' (bdM_pow (by omega) HBD.out 0) (Nat.le_refl _)) (by decide))
      (HO7.out.num' (Nat.le_trans s3 s4) (limbs_bd' (bdM_one n) (Nat.le_refl _)) (by decide)) (HM7.out.num' (Nat.le_trans (Nat.le_trans s3 s4) s5) (limbs_bd' (by rw [vM_limbs]; exact bdM_mm (by omega) HBD.out (bdM_one n)) (Nat.le_refl _)) (by decide))
      HP7.out.ap' HQ7.out.ap' HO7.out.ap' HM7.out.ap' (HP.out.ap2 HQ.out (Nat.le_refl _)) (HP.out.ap2 HO.out s4) (HP.out.ap2 HMM.out (Nat.le_trans s4 s5)) (HQ.out.ap2 HO.out (Nat.le_refl _)) (HQ.out.ap2 HMM.out s5) (HO.out.ap2 HMM.out (Nat.le_refl _))
  have HF := Lib.hid hF; clear hF
  have hcoll : Coll w7 w2.heap.size n (four p3 p4 p5 p6) 0 [(a7, n7, c7)] := by
    refine ⟨List.pairwise_singleton _ _, fun x hx => ?_, by simp, fun s i j hs hi hj _ x hx => ?_⟩
    · obtain rfl : x = (a7, n7, c7) := by simpa using hx
      exact ⟨⟨_, owns_base HT.out.own (Nat.le_trans (Nat.le_trans (Nat.le_trans s3 s4) s5) s6)⟩, Nat.le_trans (HT.out.ns.small (trc_len HBD.out (by omega) (Nat.le_refl _))) (by decide)⟩
    · obtain rfl : x = (a7, n7, c7) := by simpa using hx
      rcases (show s = 0 ∨ s = 1 ∨ s = 2 ∨ s = 3 by omega) with rfl | rfl | rfl | rfl
      · exact (ap_after ((HP.out.ns i hi).2.num j hj).own HT.out.own (Nat.le_trans (Nat.le_trans s4 s5) s6)).symm
      · exact (ap_after ((HQ.out.ns i hi).2.num j hj).own HT.out.own (Nat.le_trans s5 s6)).symm
      · exact (ap_after ((HO.out.ns i hi).2.num j hj).own HT.out.own s6).symm
      · exact (ap_after ((HMM.out.ns i hi).2.num j hj).own HT.out.own (Nat.le_refl _)).symm
  obtain ⟨h0, hh0⟩ : ∃ h0, w7.heap.size = h0 := ⟨_, rfl⟩
  have hall : AllAt w7 (w7.alloc (.cells #[.slice a7 n7 c7] 39)) h0 w2.heap.size n (four p3 p4 p5 p6) 0 (some ⟨h0, 0, none⟩) 1 1 [(a7, n7, c7)] :=
    ⟨hcoll, rfl, own_lit (n := 1) hh0.symm (by omega) (by decide) rfl, by have := balloc (bnil w7) (.cells #[.slice a7 n7 c7] 39); rwa [hh0] at this⟩
  have HALL := Lib.hid hall
  have HH0 := Lib.hid hh0
  have hb7W := bstep hb2W HB27.out
  have hB0 : w2.heap.size ≤ h0 := by omega
  have hWB : W.heap.size ≤ w2.heap.size := hb2W.size
  clear hall hh0 hcoll HP HQ HO HMM HT HB3 HB4 HB5 HB6 HB7 HB25 s3 s4 s5 s6 s7
  go_wp2_with fail
  have e0 := HH0.out
  simp only [e0]
  clear e0
  go_loopw [14, 15] (fun vx ix wr => ∃ (i : Nat) (a : Option Addr) (m c : Nat) (L : List It), i ≤ n ∧ ix = .int .i64 i ∧ vx = .slice a m c ∧ AllAt w7 wr h0 w2.heap.size n (four p3 p4 p5 p6) (4 * i) a m c L) (fun _ ix _ => n - (intOf ix).toNat)
  case atStart => exact ⟨0, _, 1, 1, _, by omega, rfl, rfl, HALL.out⟩
  case round =>
    clear HALL
    obtain ⟨i, ba, m, ca, L, hi, rfl, rfl, ha⟩ := hrel
    have hms := (ha.small h5 (by omega)).1
    have HA0 := Lib.hid ha
    clear ha
    by_cases hin : i < n
    · have i0 : (0 : Int) ≤ (i : Int) := by omega
      have i1 : (i : Int) < (n : Int) := by omega
      obtain ⟨gp0, a10, cc0, rfl, xp0, np0, rp0⟩ := HP7.out.line HA0.out.bel (Nat.le_of_eq HH0.out) hin
      have hz0 : h0 ≤ wr.heap.size := by rw [← HH0.out]; exact HA0.out.bel.size
      go_upto_region 18 with (first
        | (at_builtin; refine apx rfl _ _ _ rfl h0 et_nats _ _ _ HA0.out.row rfl a10 n cc0 _ rfl np0 rp0 (oneCellsR _ _) (by unfold maxLen; omega) (by omega) hz0 ?_; intro b1 d1 v1 h1; have H1 := Lib.hid h1; clear h1))
      have HA1 := Lib.hid (HA0.out.step HF.out (s := 0) (i := i) (by omega) hin (by omega) H1.out)
      clear xp0 np0 rp0 hz0 H1 HA0
      obtain ⟨gp1, a11, cc1, rfl, xp1, np1, rp1⟩ := HQ7.out.line HA1.out.bel (Nat.le_of_eq HH0.out) hin
      have hz1 : h0 ≤ v1.heap.size := by rw [← HH0.out]; exact HA1.out.bel.size
      go_upto_region 19 with (first
        | (at_builtin; refine apx rfl _ _ _ rfl h0 et_nats _ _ _ HA1.out.row rfl a11 n cc1 _ rfl np1 rp1 (oneCellsR _ _) (by unfold maxLen; omega) (by omega) hz1 ?_; intro b2 d2 v2 h1; have H2 := Lib.hid h1; clear h1))
      have HA2 := Lib.hid (HA1.out.step HF.out (s := 1) (i := i) (by omega) hin (by omega) H2.out)
      clear xp1 np1 rp1 hz1 H2 HA1
      obtain ⟨gp2, a12, cc2, rfl, xp2, np2, rp2⟩ := HO7.out.line HA2.out.bel (Nat.le_of_eq HH0.out) hin
      have hz2 : h0 ≤ v2.heap.size := by rw [← HH0.out]; exact HA2.out.bel.size
      go_upto_region 20 with (first
        | (at_builtin; refine apx rfl _ _ _ rfl h0 et_nats _ _ _ HA2.out.row rfl a12 n cc2 _ rfl np2 rp2 (oneCellsR _ _) (by unfold maxLen; omega) (by omega) hz2 ?_; intro b3 d3 v3 h1; have H3 := Lib.hid h1; clear h1))
      have HA3 := Lib.hid (HA2.out.step HF.out (s := 2) (i := i) (by omega) hin (by omega) H3.out)
      clear xp2 np2 rp2 hz2 H3 HA2
      obtain ⟨gp3, a13, cc3, rfl, xp3, np3, rp3⟩ := HM7.out.line HA3.out.bel (Nat.le_of_eq HH0.out) hin
      have hz3 : h0 ≤ v3.heap.size := by rw [← HH0.out]; exact HA3.out.bel.size
      go_wp2_with (first
        | (at_builtin; refine apx rfl _ _ _ rfl h0 et_nats _ _ _ HA3.out.row rfl a13 n cc3 _ rfl np3 rp3 (oneCellsR _ _) (by unfold maxLen; omega) (by omega) hz3 ?_; intro b4 d4 v4 h1; have H4 := Lib.hid h1; clear h1))
      have HA4 := Lib.hid (HA3.out.step HF.out (s := 3) (i := i) (by omega) hin (by omega) H4.out)
      clear xp3 np3 rp3 hz3 H4 HA3
      go_roundw
      case rel => exact ⟨i + 1, _, _, _, _, by omega, by go_num, rfl, HA4.out⟩
      case measure => simp [intOf]; omega
    · obtain rfl : n = i := by omega
      have hbel := HA0.out.bel
      have HBR := Lib.hid (HB27.out.trans (hbel.mono hB0))
      clear hbel
      go_wp2_with fail
      refine (apart_all HA0.out HH0.out.symm hB0 h5 (by omega)).mono ?_; rintro e v1 ⟨rfl, hb1⟩
      have HBv := Lib.hid (HBR.out.trans hb1)
      clear hb1 HA0
      go_wp2_with fail
      refine (kept16_any ax am n cx c _ g F rowsx itsx _ (HX.out.up HBv.out) (HM.out.up (hb2W.trans (HBv.out.mono hWB))) (by omega) HLL.out).mono ?_; rintro e v2 ⟨rfl, hb2⟩
      go_wp2
      go_ret
      exact ⟨rfl, bstep (hb2W.trans (HBv.out.mono hWB)) hb2⟩

theorem keeps16_row (am : Option Addr) (n c : Nat) (g : Nat → Nat) (F : Nat → Nat → List Nat) (W : World) (R : Nat → Addr) (hS : Sent W R) (hM : MsR W am n g F) (hl : n ≤ c) (hc : c * 24 ≤ 140737488351232) (hn : am = none → c = 0) :
    Calls Tryd.prog 4 #[.slice am n c] W (TrueBelow W) := by
  by_cases h : Light n g F ∧ n ≤ 5 ∧ Square n g
  · exact keeps16_ok am n c g F W hM h.1 h.2.1 h.2.2
  · exact keeps16_out am n c g F W R hS.glob hM (by unfold maxLen; omega) h
end Go.Proofs.YtmdicmcmalmbaaaDoor
