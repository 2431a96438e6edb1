/- Package subset: step. -/
import Derived.Test.YtiglilecmieelaaGreatDoorSubS
import Derived.Deep.RegionWith
import Derived.Deep.RegionHeld3
namespace Go.Proofs.YtiglilecmieelaaGreatDoor
open Go.RowKit
set_option linter.unusedVariables false
set_option maxRecDepth 100000

set_option maxHeartbeats 16000000 in
theorem step_ok (w : World) (R : Nat → Addr) (hGl : Glob w R) (B gB gM gw k r N Wd : Nat) (aT : Option Addr) (T cT : Nat) (nv : Value) (Ln : Nat) (tb : List Int) (i s : Nat) (S1 : List Nat) (ws : List (List Nat)) (rw_ : Nat → Nat) (al : Option Addr) (cl : Nat) (wv : Nat → Value) (aw : Option Addr) (cw : Nat)
    (hR : RK .i64 w aT T tb) (hI : IsRule k r tb) (hT : T ≤ 256) (hTN : T = N * k) (hN0 : 0 < N) (hN : N ≤ 128) (hWd : (N + 63) / 64 = Wd)
    (hb : BagSt w B gB gM N Wd S1 rw_ al cl) (hw : WkSt w B gw k r aT T cT (.pointer (some ⟨gB, 0, none⟩)) nv Ln ws wv aw cw) (hlen : ws.length = S1.length) (hi : i < S1.length) (hs : s < k) (hL : S1.length ≤ 4096) (hwl : ∀ j, (ws.getD j []).length ≤ 5000) (hB : B ≤ w.heap.size) :
    Calls Tryz.prog 21 #[.pointer (some ⟨gw, 0, none⟩), .int .i64 i, .int .i64 s] w fun e w' => StepRes w w' R B gB gM gw k r N Wd aT T cT nv Ln tb i s (S1, ws) e := by
  have k1 := hI.k1
  have k4 := hI.k4
  have hlt := hb.sets.lt
  obtain ⟨b, hal, _, _⟩ := own_form hb.sets (by omega)
  subst hal
  have hci : w.cell? ⟨b, i, none⟩ = some (.slice (some ⟨rw_ i, 0, none⟩) Wd Wd) := (hb.sets.cellAt i (by omega)).trans (by simp [hi])
  obtain ⟨m, hm⟩ : ∃ m, S1.getD i 0 = m := ⟨_, rfl⟩
  have hrow := hb.row i hi
  rw [hm] at hrow
  have HGT := Lib.hid (get_ok N Wd gB b (rw_ i) i S1.length cl m _ w hb.box hci hrow hi hL hWd (by omega))
  have HEDG : Hid (∀ w1, Below w.heap.size w w1 → ∀ v c, v < N → c < k → Calls Tryz.prog 40 #[ruleV k r aT T cT, .int .i64 v, .int .i64 c] w1 fun e w' => e = .returned (.tuple #[.int .i64 (((v * k + c) % N : Nat) : Int), .int .i64 (tb.getD (v * k + c) 0), .nilIface]) ∧ Below w1.heap.size w1 w') := fun w1 hb v c hv hc => edge_ok k r N v c aT T cT tb w1 (hR.up hb) hI hT hTN hv hc
  have HPOS : Hid (∀ j, (labT tb j = s) ↔ (tb.getD j 0 = (s : Int))) := fun j => by
    have : 0 ≤ tb.getD j 0 := by
      rw [List.getD_eq_getElem?_getD]
      by_cases h : j < tb.length
      · rw [List.getElem?_eq_getElem h]; exact (hI.sym _ (List.getElem_mem h)).1
      · rw [List.getElem?_eq_none (by omega)]; exact Int.le_refl _
    unfold labT
    omega
  have HBG := Lib.hid hb
  have HWK := Lib.hid hw
  have HGL := Lib.hid hGl
  have HB := Lib.hid hB
  have HWD := Lib.hid hWd
  have HM := Lib.hid hm
  have HWL := Lib.hid hwl
  have HI := Lib.hid hi
  have HLN := Lib.hid hlen
  have HL := Lib.hid hL
  obtain ⟨x0, x1, x2, x3, x4, x5, x6, f5, _, _⟩ := hw.cells
  clear hGl hR hI hTN hWd hb hw hB hlt hci hrow hm hwl hi hlen hL x4 x5 x6 f5
  go_enter Tryz.func21, Tryz.ntmps21
  go_wp2_with fail
  refine HGT.out.mono ?_; rintro e wg ⟨am, nm, cm, rfl, hrm, hnm, hbg⟩
  have HBW := Lib.hid hbg
  have HRM := Lib.hid hrm
  obtain ⟨ms, hms⟩ : ∃ ms, memB N m = ms := ⟨_, rfl⟩
  rw [hms] at HRM hrm
  have HMS := Lib.hid hms
  have hml : nm = ms.length := by have := hrm.len; simpa using this
  have HML := Lib.hid hml
  obtain ⟨g, hg⟩ : ∃ g, wg.heap.size = g := ⟨_, rfl⟩
  have HG := Lib.hid hg
  clear hbg hrm hms hml x0 x1 x2 x3 hg
  go_wp2_with fail
  go_loopw [10, 33] (fun bv jv wr => ∃ (j nb : Nat) (ab : Option Addr) (cb : Nat), j ≤ nm ∧ jv = .int .i64 (j : Nat) ∧ bv = .slice ab nb cb ∧ wr.ownsRow g 3 1 (.slice ab nb cb) nb (natC (bhP k N (labT tb) ms s j 0)) ∧ Below g wg wr) (fun _ jv _ => nm - (intOf jv).toNat)
  case atStart => exact ⟨0, 0, none, 0, Nat.zero_le _, rfl, rfl, World.ownsRow_nil _ _ _ _, by rw [← HG.out]; exact bnil wg⟩
  case round =>
    obtain ⟨j, nb, ab, cb, hj, rfl, rfl, ho, hb⟩ := hrel
    have hbw : Below wg.heap.size wg wr := by rw [HG.out]; exact hb
    have HO := Lib.hid ho
    have HBR := Lib.hid hb
    have HBX := Lib.hid (bstep HBW.out hbw)
    clear ho hb
    by_cases hjn : j < nm
    · have j1 : (j : Int) < (nm : Int) := by omega
      have j0 : (0 : Int) ≤ (j : Int) := by omega
      obtain ⟨bm, om, rfl, _, hcm⟩ := (HRM.out.up hbw).addr (by omega)
      have cm0 := hcm j hjn
      rw [getD_natB] at cm0
      have hvm : ms.getD j 0 < N := by
        rw [List.getD_eq_getElem?_getD, List.getElem?_eq_getElem (by rw [← HML.out]; exact hjn)]
        have := memB_lt (n := N) (m := m) (ms.getD j 0)
        rw [HMS.out] at this
        rw [List.getD_eq_getElem?_getD, List.getElem?_eq_getElem (by rw [← HML.out]; exact hjn)] at this
        exact this (List.getElem_mem _)
      have HSC : Hid (∀ c, bhP k N (labT tb) ms s j (c + 1) = bhP k N (labT tb) ms s j c ++ (if labT tb (ms.getD j 0 * k + c) = s then [(ms.getD j 0 * k + c) % N] else [])) := fun c => bhP_succ j c
      have HNX := Lib.hid (bhP_next (k := k) (n := N) (lab := labT tb) (ms := ms) (s := s) (j := j) (by rw [← HML.out]; exact hjn))
      obtain ⟨v, hv⟩ : ∃ v, ms.getD j 0 = v := ⟨_, rfl⟩
      rw [hv] at cm0 hvm HSC
      have x0 := (HWK.out.up HBX.out).cells.1
      clear hcm hbw hv
      go_wp2_with fail
      clear cm0 x0
      go_loopw [10, 42] (fun bv cv wr => ∃ (c nb : Nat) (ab : Option Addr) (cb : Nat), c ≤ k ∧ cv = .int .i64 (c : Nat) ∧ bv = .slice ab nb cb ∧ wr.ownsRow g 3 1 (.slice ab nb cb) nb (natC (bhP k N (labT tb) ms s j c)) ∧ Below g wg wr) (fun _ cv _ => k - (intOf cv).toNat)
      case atStart => exact ⟨0, nb, ab, cb, Nat.zero_le _, rfl, rfl, HO.out, HBR.out⟩
      case round =>
        clear HO HBR HBX
        obtain ⟨c, nb, ab, cb, hc, rfl, rfl, ho, hb⟩ := hrel
        have hbw : Below wg.heap.size wg wr := by rw [HG.out]; exact hb
        have hgs : g ≤ wr.heap.size := by have := hbw.size; rw [HG.out] at this; exact this
        have hnb : nb ≤ 1100 := by
          have h1 := ho.1
          have h2 := bhP_len (k := k) (n := N) (lab := labT tb) (ms := ms) (s := s) (j := j) (c := c) (by omega) k4 hc
          unfold natC at h1
          simp only [List.length_map, Nat.mul_one] at h1
          omega
        have HO := Lib.hid ho
        have HBR := Lib.hid hb
        have HBX := Lib.hid (bstep HBW.out hbw)
        clear ho hb hbw
        by_cases hck : c < k
        · have c1 : (c : Int) < (k : Int) := by omega
          obtain ⟨x0, x1, x2, _⟩ := (HWK.out.up HBX.out).cells
          go_wp2_with fail
          refine (HEDG.out wr HBX.out v c hvm hck).mono ?_; rintro e w3 ⟨rfl, hb3⟩
          have HB3 : Hid (Below g wg w3) := HBR.out.trans (hb3.mono hgs)
          have HO3 := Lib.hid (owns_up HO.out hb3)
          have hgs3 : g ≤ w3.heap.size := Nat.le_trans hgs hb3.size
          have HSC2 := Lib.hid (HSC.out c)
          have hps := HPOS.out (v * k + c)
          generalize (v * k + c) % N = t at *
          generalize tb.getD (v * k + c) 0 = y at *
          clear x0 x1 x2 hb3
          by_cases hy : y = (s : Int)
          · have hyb : (y == (s : Int)) = true := by simpa using hy
            have HS3 : Hid (bhP k N (labT tb) ms s j (c + 1) = bhP k N (labT tb) ms s j c ++ [t]) := by
              show _ = _
              rw [HSC2.out, if_pos (hps.2 hy)]
            clear hy hps
            go_wp2_with (first
              | (at_builtin; refine apl rfl _ _ _ rfl g et_int _ nb _ HO3.out rfl 1 _ _ rfl rfl rfl rfl (by unfold maxLen; omega) (by omega) hgs3 ?_; intro a7 c7 w7 h7; have HA7 := Lib.hid h7; clear h7))
            have ho7 : w7.ownsRow g 3 1 (.slice a7 (nb + 1) c7) (nb + 1) (natC (bhP k N (labT tb) ms s j (c + 1))) := by
              rw [HS3.out, natC_app]
              exact HA7.out.own
            have hb7 := HB3.out.trans HA7.out.below
            go_roundw
            case measure => simp [intOf]; omega
            case rel => exact ⟨c + 1, nb + 1, a7, c7, by omega, by go_num, rfl, ho7, hb7⟩
          · have hyb : (y == (s : Int)) = false := by simpa using hy
            have HS3 : Hid (bhP k N (labT tb) ms s j (c + 1) = bhP k N (labT tb) ms s j c) := by
              show _ = _
              rw [HSC2.out, if_neg (fun q => hy (hps.1 q)), List.append_nil]
            clear hy hps
            go_wp2
            go_roundw
            case measure => simp [intOf]; omega
            case rel => exact ⟨c + 1, nb, ab, cb, by omega, by go_num, rfl, by rw [HS3.out]; exact HO3.out, HB3.out⟩
        · obtain rfl : c = k := by omega
          have c1 : ¬ (c : Int) < (c : Int) := by omega
          have HO8 : Hid (wr.ownsRow g 3 1 (.slice ab nb cb) nb (natC (bhP c N (labT tb) ms s (j + 1) 0))) := by show World.ownsRow _ _ _ _ _ _ _; rw [← HNX.out]; exact HO.out
          go_wp2
          go_roundw
          case measure => simp [intOf]; omega
          case rel => exact ⟨j + 1, nb, ab, cb, by omega, by go_num, rfl, HO8.out, HBR.out⟩
    · obtain rfl : j = nm := by omega
      have j1 : ¬ (j : Int) < (j : Int) := by omega
      have hgs : g ≤ wr.heap.size := by have := hbw.size; rw [HG.out] at this; exact this
      have HOB : Hid (wr.ownsRow g 3 1 (.slice ab nb cb) nb (natC (behB k N (labT tb) ms s))) := by
        show World.ownsRow _ _ _ _ _ _ _
        rw [← bhP_end, ← HML.out]; exact HO.out
      obtain ⟨bh, hbh⟩ : ∃ bh, behB k N (labT tb) ms s = bh := ⟨_, rfl⟩
      rw [hbh] at HOB
      have HBH := Lib.hid hbh
      have hnb : nb = bh.length := by
        have h1 := HOB.out.1
        unfold natC at h1
        simp only [List.length_map, Nat.mul_one] at h1
        exact h1.symm
      have HNB := Lib.hid hnb
      have HST : Hid (stepO k N (labT tb) i s (S1, ws) = if bh = [] then .orphan (ws.getD i [] ++ [s]) else if maskB bh ∈ S1 then .go (S1, ws) else if S1.length = 4096 then .big else .go (S1 ++ [maskB bh], ws ++ [ws.getD i [] ++ [s]])) := by
        show stepO _ _ _ _ _ _ = _
        unfold stepO
        simp only [HM.out, HMS.out, HBH.out]
      have HWR := Lib.hid (HWK.out.up HBX.out)
      have hwi := HI.out
      rw [← HLN.out] at hwi
      obtain ⟨ba, hba, _, _⟩ := own_form HWR.out.wds (by omega)
      subst hba
      obtain ⟨lw, how⟩ := HWR.out.wd i hwi
      obtain ⟨awi, cwi, hwvi⟩ := own_wf how
      have hwc : wr.cell? ⟨ba, i, none⟩ = some (wv i) := (HWR.out.wds.cellAt i (by omega)).trans (by simp [hwi])
      rw [hwvi] at hwc how
      have HOWI := Lib.hid how
      have HWVI := Lib.hid hwvi
      have HWLI := Lib.hid (HWL.out i)
      obtain ⟨nwi, hnwi⟩ : ∃ n, (ws.getD i []).length = n := ⟨_, rfl⟩
      rw [hnwi] at hwc HOWI HWLI HWVI
      have HNWI := Lib.hid hnwi
      obtain ⟨LW, hLW⟩ : ∃ LW, ws.length = LW := ⟨_, rfl⟩
      have HLW := Lib.hid hLW
      obtain ⟨x0, x1, x2, x3, x4, x5, x6, f5, _, _⟩ := HWR.out.cells
      rw [hLW] at x5 hwi
      have iI0 : (0 : Int) ≤ (i : Int) := by omega
      have iI1 : (i : Int) < (LW : Int) := by omega
      clear hbw hbh hnb how hwvi hnwi hLW HO hwi x0 x1 x2 x4
      by_cases hn0 : nb = 0
      · have hbe : bh = [] := List.eq_nil_of_length_eq_zero (by rw [← HNB.out]; exact hn0)
        have HST2 : Hid (stepO k N (labT tb) i s (S1, ws) = .orphan (ws.getD i [] ++ [s])) := by show _ = _; rw [HST.out, if_pos hbe]
        clear hbe
        subst hn0
        obtain ⟨q1, q2, q3⟩ := own_cap HOWI.out
        have hnw5 : nwi ≤ 5000 := HWLI.out
        go_wp2_with fail
        refine (clone_any awi nwi cwi lw wr (RK.of_own HOWI.out) (by omega) q1 q3).mono ?_; rintro e w5 ⟨a5, c5, rfl, ho5, hb5⟩
        have HO5 := Lib.hid ho5
        have HB5 := Lib.hid hb5
        clear x3 x5 x6 f5 hwc ho5 hb5
        go_wp2_with (first
          | (at_builtin; refine apl rfl _ _ _ rfl wr.heap.size et_int _ nwi _ HO5.out rfl 1 _ _ rfl rfl rfl rfl (by unfold maxLen; omega) (by omega) HB5.out.size ?_; intro a7 c7 w7 h7; have HA7 := Lib.hid h7; clear h7))
        go_ret2
        refine .inl ⟨_, HST2.out, w7.heap.size, a7, c7, rfl, ?_, balloc (bstep HBX.out (HB5.out.trans HA7.out.below)) _⟩
        rw [List.length_append, HNWI.out]
        exact heap_alloc_new w7 _
      · have hnb0 : ((nb : Int) == 0) = false := by rw [beq_eq_false_iff_ne]; omega
        have hbe : bh ≠ [] := fun e => hn0 (by rw [HNB.out, e]; rfl)
        have HBE := Lib.hid hbe
        clear hn0 hbe x6
        have hnb5 : nb ≤ 100000 := by
          have h2 := bhP_len (k := k) (n := N) (lab := labT tb) (ms := ms) (s := s) (j := j) (c := 0) (by omega) k4 (by omega)
          rw [HML.out, bhP_end, HBH.out, ← HNB.out] at h2
          omega
        have HPT := Lib.hid (Put_ok wr R (HGL.out.up HBX.out) B gB gM N Wd S1 rw_ (some ⟨b, 0, none⟩) cl ab nb cb bh (HBG.out.up HBX.out) HWD.out (by omega) (RK.of_own HOB.out) hnb5 (by rw [← HBH.out]; exact behB_lt hN0) HL.out (Nat.le_trans HB.out HBX.out.size))
        go_wp2_with fail
        refine HPT.out.mono ?_
        intro e w5 hres
        rcases hres with ⟨jd, h1, h2, rfl, h4⟩ | ⟨h1, h2, gf, rfl, h4, h5⟩ | ⟨h1, h2, gr2, al2, cl2, rfl, h4, h5, h6⟩
        · have HX : Hid (stepO k N (labT tb) i s (S1, ws) = .go (S1, ws)) := by
            show _ = _
            rw [HST.out, if_neg HBE.out, if_pos (by rw [← h2]; exact getD_memB h1)]
          have HB5 := Lib.hid h4
          clear h1 h2 h4 x3 x5 f5 hwc
          go_wp2
          go_ret2
          have hbx := bstep HBX.out HB5.out
          exact .inr (.inr ⟨_, HX.out, jd, rw_, _, cl, wv, _, cw, rfl, HBG.out.up hbx, HWK.out.up hbx, hbx.mono HB.out, KeepI.of hbx⟩)
        · have HX : Hid (stepO k N (labT tb) i s (S1, ws) = .big) := by
            show _ = _
            rw [HST.out, if_neg HBE.out, if_neg h1, if_pos h2]
          have HB5 := Lib.hid h5
          have H4 := Lib.hid h4
          clear h1 h2 h4 h5 x3 x5 f5 hwc
          go_wp2
          go_ret2
          exact .inr (.inl ⟨HX.out, gf, rfl, H4.out, bstep HBX.out HB5.out⟩)
        · have HX : Hid (stepO k N (labT tb) i s (S1, ws) = .go (S1 ++ [maskB bh], ws ++ [ws.getD i [] ++ [s]])) := by
            show _ = _
            rw [HST.out, if_neg HBE.out, if_neg h1, if_neg h2]
          have HBG5 := Lib.hid h4
          have HWK5 := Lib.hid (HWR.out.keepN h5)
          have HK5 := Lib.hid ((KeepN.of HBX.out).trans h5)
          have HB5 : Hid (Below B w w5) := (HBX.out.mono HB.out).trans h6
          clear h1 h2 h4 h5 h6 x3 x5 f5 hwc
          have hwi5 : i < ws.length := by rw [HLW.out]; omega
          obtain ⟨l5, how5⟩ := HWK5.out.wd i hwi5
          rw [HNWI.out, HWVI.out] at how5
          have HOW5 := Lib.hid how5
          have hwc5 : w5.cell? ⟨ba, i, none⟩ = some (wv i) := (HWK5.out.wds.cellAt i (by omega)).trans (by simp [hwi5])
          rw [HWVI.out] at hwc5
          have y5 := HWK5.out.cells.2.2.2.2.2.1
          rw [HLW.out] at y5
          have hnw5 : nwi ≤ 5000 := HWLI.out
          have hLWb : LW ≤ 4096 := by have := HLW.out; have := HLN.out; have := HL.out; omega
          obtain ⟨q1, q2, q3⟩ := own_cap how5
          have HS5 : Hid (w5.cell? ⟨gw, 5, none⟩ = some (.slice (some ⟨ba, 0, none⟩) LW cw) ∧ w5.cell? ⟨ba, i, none⟩ = some (.slice awi nwi cwi)) := ⟨y5, hwc5⟩
          have HSD : Hid (w5.drew.cell? ⟨gw, 5, none⟩ = some (.slice (some ⟨ba, 0, none⟩) LW cw) ∧ w5.drew.cell? ⟨ba, i, none⟩ = some (.slice awi nwi cwi)) := HS5.out
          have HCLN : Hid (∀ w', Below w5.heap.size w5 w' → Calls Tryz.prog 47 #[.slice awi nwi cwi] w' fun e w'' => ∃ a' c', e = .returned (.slice a' nwi c') ∧ w''.ownsRow w'.heap.size 3 1 (.slice a' nwi c') nwi (l5.map (Value.int .i64)) ∧ Below w'.heap.size w' w'') := fun w' hb => clone_any awi nwi cwi l5 w' (RK.of_own (owns_up HOW5.out hb)) (by omega) q1 q3
          clear how5 hwc5 y5 hwi5
          go_upto_region 24 with (fail)
          go_cut [] from 19 (fun wx => ∃ (wd' : Nat → Value) (aw' : Option Addr) (cw' : Nat), WkSt wx B gw k r aT T cT (.pointer (some ⟨gB, 0, none⟩)) nv Ln (ws ++ [ws.getD i [] ++ [s]]) wd' aw' cw' ∧ KeepY w5 wx ∧ KeepI w5 wx ∧ Below B w5 wx)
          case first =>
            have HBD : Hid (Below w5.heap.size w5 w5.drew) := (bnil w5).drew
            have HBL : Hid (Below w5.heap.size w5 (w5.alloc (.cells #[.int .i64 s] 3)).drew) := (balloc (bnil w5) _).drew
            have HSL := Lib.hid (And.intro (cpE HBL.out HS5.out.1) (cpE HBL.out HS5.out.2))
            have HRL : Hid (Rd (w5.alloc (.cells #[.int .i64 s] 3)).drew (some ⟨w5.heap.size, 0, none⟩) 1 1 [.int .i64 s]) := (rd_new rfl rfl : Rd (w5.alloc (.cells #[.int .i64 s] 3)) _ 1 1 _).up (bnil _).drew
            have HBw5 : Hid (B ≤ w5.heap.size) := Nat.le_trans HB.out HK5.out.1
            obtain ⟨y5, u5⟩ := HS5.out
            obtain ⟨yl, ul⟩ := HSL.out
            go_region_law (first
                | ((with_reducible show (if Region.wanted (Oper.mk (some 112) _ _ _ _ _) _ = true then _ else _)); go_simp; go_at_call 47; (first | ((with_reducible refine (HCLN.out w5.drew HBD.out).mono ?_); rintro e w8 ⟨a8, c8, rfl, ho8, hb8⟩; have HB8 : Hid (Below w5.heap.size w5 w8) := bstep HBD.out hb8; have HBX : Hid (Below w5.heap.size w5 (w8.alloc (.cells #[.int .i64 s] 3))) := balloc HB8.out _; have HOX : Hid ((w8.alloc (.cells #[.int .i64 s] 3)).ownsRow w5.heap.size 3 1 (.slice a8 nwi c8) nwi (l5.map (Value.int .i64))) := ho8.alloc _; have HRX : Hid (Rd (w8.alloc (.cells #[.int .i64 s] 3)) (some ⟨w8.heap.size, 0, none⟩) 1 1 [.int .i64 s]) := rd_new rfl rfl; have y8 := cpE HB8.out HS5.out.1; have y8L := cpE HBX.out HS5.out.1; clear ho8 hb8) | ((with_reducible refine (HCLN.out _ HBL.out).mono ?_); rintro e w8 ⟨a8, c8, rfl, ho8, hb8⟩; have HBX : Hid (Below w5.heap.size w5 w8) := bstep HBL.out hb8; have HOX : Hid (w8.ownsRow w5.heap.size 3 1 (.slice a8 nwi c8) nwi (l5.map (Value.int .i64))) := owns_base ho8 HBL.out.size; have HRX : Hid (Rd w8 (some ⟨w5.heap.size, 0, none⟩) 1 1 [.int .i64 s]) := HRL.out.up hb8; have y8 := cpE HBX.out HS5.out.1; clear ho8 hb8)))
                | ((with_reducible show (if Region.wanted (Oper.mk (some 115) _ _ _ _ _) _ = true then _ else _)); refine stx (by rfl) _ _ _ (by rfl) w5.heap.size et_int _ nwi _ HOX.out (by rfl) _ 1 1 _ (by rfl) (by simp) HRX.out (by simp [Value.oneCell']) (by unfold maxLen; omega) (by omega) HBX.out.size ?_; intro a9 c9 w9 h9; have HA9 := Lib.hid h9; have HB9 : Hid (Below w5.heap.size w5 w9) := HBX.out.trans h9.below; have y9 := cpE HB9.out HS5.out.1; have HB9L : Hid (Below w5.heap.size w5 (w9.alloc (.cells #[.slice a9 (nwi + 1) c9] 22))) := balloc HB9.out _; have y9L := cpE HB9L.out HS5.out.1; have HR9 : Hid (Rd (w9.alloc (.cells #[.slice a9 (nwi + 1) c9] 22)) (some ⟨w9.heap.size, 0, none⟩) 1 1 [.slice a9 (nwi + 1) c9]) := rd_new rfl rfl; have HW9 := Lib.hid (HWK5.out.up HB9L.out); have HWD9 := Lib.hid HW9.out.wds; rw [HLW.out] at HWD9; clear h9)
                | ((with_reducible show (if Region.wanted (Oper.mk (some 117) _ _ _ _ _) _ = true then _ else _)); refine stx (by rfl) _ _ _ (by rfl) B et_ints _ LW _ HWD9.out (by rfl) _ 1 1 _ (by rfl) (by simp) HR9.out (by simp [Value.oneCell']) (by unfold maxLen; omega) (by omega) (Nat.le_trans HBw5.out HB9L.out.size) ?_; intro a10 c10 w10 h10; have HA10 := Lib.hid h10; obtain ⟨y10, f10, z10⟩ := word_after HW9.out HLW.out h10 (cpE HB9L.out HS5.out.2); clear h10))
            all_goals
              go_wp2
              go_meet
              exact word_end HWK5.out HLW.out HNWI.out HBw5.out HA9.out HB9.out HA10.out
          case rest =>
            obtain ⟨wd', aw', cw', h1, h2, h3, h4⟩ := hcut
            have HBF := Lib.hid (HBG5.out.keep h2)
            have H1 := Lib.hid h1
            have H3 := Lib.hid ((KeepI.ofN HK5.out).trans h3)
            have H4 : Hid (Below B w wc) := HB5.out.trans h4
            clear h1 h2 h3 h4
            go_wp2
            go_ret2
            exact .inr (.inr ⟨_, HX.out, S1.length, _, _, _, _, _, _, rfl, HBF.out, H1.out, H4.out, H3.out⟩)
end Go.Proofs.YtiglilecmieelaaGreatDoor
