/- The walk of edenlaw16.MatRing. -/
import Derived.Test.YtmdicmcmalmbaaaDoorMatF
import Derived.Test.YtmdicmcmalmbaaaDoorRawIs
namespace Go.Proofs.YtmdicmcmalmbaaaDoor
open Go.RowKit
set_option linter.unusedVariables false
set_option maxRecDepth 100000

theorem ring_out (aa ab ac : Option Addr) (na nb nc ca cb cc : Nat) (ga gb gc : Nat → Nat) (A B C : Nat → Nat → List Nat) (W : World) (R : Nat → Addr) (hG : Glob W R) (hA : MsR W aa na ga A) (hB : MsR W ab nb gb B) (hC : MsR W ac nc gc C) (hma : na ≤ maxLen) (hmb : nb ≤ maxLen) (hmc : nc ≤ maxLen)
    (hbad : ¬ (Light na ga A ∧ Light nb gb B ∧ Light nc gc C ∧ (Square na ga ∧ Square nb gb ∧ na = nb) ∧ (Square nb gb ∧ Square nc gc ∧ nb = nc))) :
    Calls Tryd.prog 5 #[.slice aa na ca, .slice ab nb cb, .slice ac nc cc] W (TrueBelow W) := by
  have HBAD := Lib.hid hbad; clear hbad
  have HG := Lib.hid hG; clear hG
  have HA := Lib.hid hA; clear hA
  have HB := Lib.hid hB; clear hB
  have HC := Lib.hid hC; clear hC
  go_enter Tryd.func5, Tryd.ntmps5
  go_wp2_with fail
  refine (awake16 _).mono ?_; rintro e w1 ⟨rfl, hb1⟩
  go_wp2_with fail
  refine (heavy_any aa na ca ga A _ (HA.out.up hb1) hma).mono ?_; rintro e w2 ⟨b, rfl, hL, rfl⟩
  cases b with
  | true =>
    clear hL
    go_wp2
    go_ret
    exact ⟨rfl, hb1⟩
  | false =>
  have HL1 := Lib.hid (hL rfl); clear hL
  go_wp2_with fail
  refine (heavy_any ab nb cb gb B _ (HB.out.up hb1) hmb).mono ?_; rintro e w2 ⟨b, rfl, hL, rfl⟩
  cases b with
  | true =>
    clear hL
    go_wp2
    go_ret
    exact ⟨rfl, hb1⟩
  | false =>
  have HL2 := Lib.hid (hL rfl); clear hL
  go_wp2_with fail
  refine (heavy_any ac nc cc gc C _ (HC.out.up hb1) hmc).mono ?_; rintro e w2 ⟨b, rfl, hL, rfl⟩
  cases b with
  | true =>
    clear hL
    go_wp2
    go_ret
    exact ⟨rfl, hb1⟩
  | false =>
  have HL3 := Lib.hid (hL rfl); clear hL
  go_wp2_with fail
  by_cases h1 : Square na ga ∧ Square nb gb ∧ na = nb
  · by_cases h2 : Square nb gb ∧ Square nc gc ∧ nb = nc
    · exact absurd ⟨HL1.out, HL2.out, HL3.out, h1, h2⟩ HBAD.out
    · obtain ⟨s1, s2, rfl⟩ := h1
      have HS1 := Lib.hid s1; clear s1
      have HS2 := Lib.hid s2; clear s2
      have HNB := Lib.hid h2; clear h2
      refine (mmul_ok aa ab na ca cb A B 8 _ ((HA.out.up hb1).square HS1.out.2) ((HB.out.up hb1).square HS2.out.2) HS1.out.1 (fun i j hi hj => (HL1.out.2 i hi).2 j (by rw [HS1.out.2 i hi]; exact hj)) (fun i j hi hj => (HL2.out.2 i hi).2 j (by rw [HS2.out.2 i hi]; exact hj)) (by decide)).mono ?_; rintro e w3 ⟨a3, c3, rows3, its3, rfl, ho3, hb3⟩
      clear ho3
      have hb3W := bstep hb1 hb3
      go_wp2_with fail
      refine (mmul_err ab ac na nc cb cc gb gc B C _ R (HG.out.up hb3W) (HB.out.up hb3W) (HC.out.up hb3W) hmb hmc HNB.out).mono ?_; rintro e w4 ⟨q, rfl, hb4⟩
      go_wp2
      go_ret
      exact ⟨rfl, bstep hb3W hb4⟩
  · have HNA := Lib.hid h1; clear h1
    refine (mmul_err aa ab na nb ca cb ga gb A B _ R (HG.out.up hb1) (HA.out.up hb1) (HB.out.up hb1) hma hmb HNA.out).mono ?_; rintro e w3 ⟨q, rfl, hb3⟩
    have hb3W := bstep hb1 hb3
    go_wp2_with fail
    by_cases h2 : Square nb gb ∧ Square nc gc ∧ nb = nc
    · obtain ⟨s1, s2, rfl⟩ := h2
      have HS1 := Lib.hid s1; clear s1
      have HS2 := Lib.hid s2; clear s2
      refine (mmul_ok ab ac nb cb cc B C 8 _ ((HB.out.up hb3W).square HS1.out.2) ((HC.out.up hb3W).square HS2.out.2) HS1.out.1 (fun i j hi hj => (HL2.out.2 i hi).2 j (by rw [HS1.out.2 i hi]; exact hj)) (fun i j hi hj => (HL3.out.2 i hi).2 j (by rw [HS2.out.2 i hi]; exact hj)) (by decide)).mono ?_; rintro e w4 ⟨a3, c3, rows3, its3, rfl, ho3, hb4⟩
      clear ho3
      go_wp2
      go_ret
      exact ⟨rfl, bstep hb3W hb4⟩
    · have HNB := Lib.hid h2; clear h2
      refine (mmul_err ab ac nb nc cb cc gb gc B C _ R (HG.out.up hb3W) (HB.out.up hb3W) (HC.out.up hb3W) hmb hmc HNB.out).mono ?_; rintro e w4 ⟨q2, rfl, hb4⟩
      go_wp2
      go_ret
      exact ⟨rfl, bstep hb3W hb4⟩

set_option maxHeartbeats 16000000 in
theorem ring_ok (aa ab ac : Option Addr) (n ca cb cc : Nat) (ga gb gc : Nat → Nat) (A B C : Nat → Nat → List Nat) (W : World) (hA : MsR W aa n ga A) (hB : MsR W ab n gb B) (hC : MsR W ac n gc C) (hl1 : Light n ga A) (hl2 : Light n gb B) (hl3 : Light n gc C) (hs1 : Square n ga) (hs2 : Square n gb) (hs3 : Square n gc) :
    Calls Tryd.prog 5 #[.slice aa n ca, .slice ab n cb, .slice ac n cc] W (TrueBelow W) := by
  have hn := hl1.1
  have HLA : Hid (∀ p q, p < n → q < n → (A p q).length ≤ 8) := fun p q hp hq => (hl1.2 p hp).2 q (by rw [hs1.2 p hp]; exact hq)
  have HLB : Hid (∀ p q, p < n → q < n → (B p q).length ≤ 8) := fun p q hp hq => (hl2.2 p hp).2 q (by rw [hs2.2 p hp]; exact hq)
  have HLC : Hid (∀ p q, p < n → q < n → (C p q).length ≤ 8) := fun p q hp hq => (hl3.2 p hp).2 q (by rw [hs3.2 p hp]; exact hq)
  have BA := bdM_of (hA.square hs1.2) HLA.out
  have BB := bdM_of (hB.square hs2.2) HLB.out
  have BC := bdM_of (hC.square hs3.2) HLC.out
  have BAB := Lib.hid (bdM_mm (by omega) BA BB)
  have BBA := Lib.hid (bdM_mm (by omega) BB BA)
  have BBC := Lib.hid (bdM_mm (by omega) BB BC)
  have BONE := Lib.hid (bdM_one n)
  have BP2 := Lib.hid (bdM_pow (by omega) BA 2)
  have BP3 := Lib.hid (bdM_pow (by omega) BA 3)
  have HA0 := Lib.hid hA; have HB0 := Lib.hid hB; have HC0 := Lib.hid hC
  have HS1 := Lib.hid hs1.2; have HS2 := Lib.hid hs2.2; have HS3 := Lib.hid hs3.2
  have hm : n ≤ maxLen := by unfold maxLen; omega
  clear hA hB hC hl1 hl2 hl3 hs1 hs2 hs3 BA BB BC
  go_enter Tryd.func5, Tryd.ntmps5
  go_wp2_with fail
  refine (awake16 _).mono ?_; rintro e w0 ⟨rfl, hb⟩
  go_wp2_with fail
  refine (heavy_any aa n ca ga A _ (HA0.out.up hb) hm).mono ?_; rintro e w2 ⟨b, rfl, hL, rfl⟩
  cases b with
  | true =>
    clear hL
    go_wp2
    go_ret
    exact ⟨rfl, hb⟩
  | false =>
  clear hL
  go_wp2_with fail
  refine (heavy_any ab n cb gb B _ (HB0.out.up hb) hm).mono ?_; rintro e w2 ⟨b, rfl, hL, rfl⟩
  cases b with
  | true =>
    clear hL
    go_wp2
    go_ret
    exact ⟨rfl, hb⟩
  | false =>
  clear hL
  go_wp2_with fail
  refine (heavy_any ac n cc gc C _ (HC0.out.up hb) hm).mono ?_; rintro e w2 ⟨b, rfl, hL, rfl⟩
  cases b with
  | true =>
    clear hL
    go_wp2
    go_ret
    exact ⟨rfl, hb⟩
  | false =>
  clear hL
  have HA := Lib.hid ((HA0.out.square HS1.out).up hb)
  have HB := Lib.hid ((HB0.out.square HS2.out).up hb)
  have HC := Lib.hid ((HC0.out.square HS3.out).up hb)
  have hbW := hb
  clear hb HA0 HB0 HC0 HS1 HS2 HS3
  go_wp2_with fail
  refine (mmul_ok _ _ n ca cb A B 8 _ HA.out HB.out (by omega) HLA.out HLB.out (by decide)).mono ?_; rintro e w1 ⟨a1, c1, rows1, its1, rfl, ho, hb⟩
  have HAB_n := Lib.hid ((ho.congr (G := fun i j => limbs ((mm n (vM A) (vM B)) i j)) (fun i j _ _ => rfl)).msR)
  have HA_n := Lib.hid (HA.out.up hb)
  have HB_n := Lib.hid (HB.out.up hb)
  have HC_n := Lib.hid (HC.out.up hb)
  have hbWn := bstep hbW hb
  clear HA HB HC ho hb hbW
  have HA := HA_n; clear HA_n
  have HB := HB_n; clear HB_n
  have HC := HC_n; clear HC_n
  have HAB := HAB_n; clear HAB_n
  have hbW := hbWn; clear hbWn
  go_wp2_with fail
  refine (mmul_ok _ _ n cb cc B C 8 _ HB.out HC.out (by omega) HLB.out HLC.out (by decide)).mono ?_; rintro e w2 ⟨a2, c2, rows2, its2, rfl, ho, hb⟩
  have HBC_n := Lib.hid ((ho.congr (G := fun i j => limbs ((mm n (vM B) (vM C)) i j)) (fun i j _ _ => rfl)).msR)
  have HA_n := Lib.hid (HA.out.up hb)
  have HB_n := Lib.hid (HB.out.up hb)
  have HC_n := Lib.hid (HC.out.up hb)
  have HAB_n := Lib.hid (HAB.out.up hb)
  have hbWn := bstep hbW hb
  clear HA HB HC HAB ho hb hbW
  have HA := HA_n; clear HA_n
  have HB := HB_n; clear HB_n
  have HC := HC_n; clear HC_n
  have HAB := HAB_n; clear HAB_n
  have HBC := HBC_n; clear HBC_n
  have hbW := hbWn; clear hbWn
  go_wp2_with fail
  refine (mmul_ok _ _ n _ cc (fun i j => limbs (mm n (vM A) (vM B) i j)) C 100 _ HAB.out HC.out (by omega) (limbs_bd' BAB.out (by decide)) (fun i j hi hj => Nat.le_trans (HLC.out i j hi hj) (by decide)) (by decide)).mono ?_; rintro e w3 ⟨a3, c3, rows3, its3, rfl, ho, hb⟩
  have HX_n := Lib.hid ((ho.congr (G := fun i j => limbs ((mm n (mm n (vM A) (vM B)) (vM C)) i j)) (fun i j _ _ => by simp only [prodF, vM_limbs])).msR)
  have HA_n := Lib.hid (HA.out.up hb)
  have HB_n := Lib.hid (HB.out.up hb)
  have HC_n := Lib.hid (HC.out.up hb)
  have HAB_n := Lib.hid (HAB.out.up hb)
  have HBC_n := Lib.hid (HBC.out.up hb)
  have hbWn := bstep hbW hb
  clear HA HB HC HAB HBC ho hb hbW
  have HA := HA_n; clear HA_n
  have HB := HB_n; clear HB_n
  have HC := HC_n; clear HC_n
  have HAB := HAB_n; clear HAB_n
  have HBC := HBC_n; clear HBC_n
  have HX := HX_n; clear HX_n
  have hbW := hbWn; clear hbWn
  go_wp2_with fail
  refine (mmul_ok _ _ n ca _ A (fun i j => limbs (mm n (vM B) (vM C) i j)) 100 _ HA.out HBC.out (by omega) (fun i j hi hj => Nat.le_trans (HLA.out i j hi hj) (by decide)) (limbs_bd' BBC.out (by decide)) (by decide)).mono ?_; rintro e w4 ⟨a4, c4, rows4, its4, rfl, ho, hb⟩
  have HY_n := Lib.hid ((ho.congr (G := fun i j => limbs ((mm n (mm n (vM A) (vM B)) (vM C)) i j)) (fun i j _ _ => by simp only [prodF, vM_limbs]; rw [mm_assoc])).msR)
  have HA_n := Lib.hid (HA.out.up hb)
  have HB_n := Lib.hid (HB.out.up hb)
  have HC_n := Lib.hid (HC.out.up hb)
  have HAB_n := Lib.hid (HAB.out.up hb)
  have HBC_n := Lib.hid (HBC.out.up hb)
  have HX_n := Lib.hid (HX.out.up hb)
  have hbWn := bstep hbW hb
  clear HA HB HC HAB HBC HX ho hb hbW
  have HA := HA_n; clear HA_n
  have HB := HB_n; clear HB_n
  have HC := HC_n; clear HC_n
  have HAB := HAB_n; clear HAB_n
  have HBC := HBC_n; clear HBC_n
  have HX := HX_n; clear HX_n
  have HY := HY_n; clear HY_n
  have hbW := hbWn; clear hbWn
  go_wp2_with fail
  refine (mmul_ok _ _ n cb ca B A 8 _ HB.out HA.out (by omega) HLB.out HLA.out (by decide)).mono ?_; rintro e w5 ⟨a5, c5, rows5, its5, rfl, ho, hb⟩
  have HBA_n := Lib.hid ((ho.congr (G := fun i j => limbs ((mm n (vM B) (vM A)) i j)) (fun i j _ _ => rfl)).msR)
  have HA_n := Lib.hid (HA.out.up hb)
  have HB_n := Lib.hid (HB.out.up hb)
  have HC_n := Lib.hid (HC.out.up hb)
  have HAB_n := Lib.hid (HAB.out.up hb)
  have HBC_n := Lib.hid (HBC.out.up hb)
  have HX_n := Lib.hid (HX.out.up hb)
  have HY_n := Lib.hid (HY.out.up hb)
  have hbWn := bstep hbW hb
  clear HA HB HC HAB HBC HX HY ho hb hbW
  have HA := HA_n; clear HA_n
  have HB := HB_n; clear HB_n
  have HC := HC_n; clear HC_n
  have HAB := HAB_n; clear HAB_n
  have HBC := HBC_n; clear HBC_n
  have HX := HX_n; clear HX_n
  have HY := HY_n; clear HY_n
  have HBA := HBA_n; clear HBA_n
  have hbW := hbWn; clear hbWn
  go_wp2_with fail
  refine (mtrace_ok _ n _ (fun i j => limbs (mm n (vM A) (vM B) i j)) 100 _ HAB.out (by omega) (limbs_bd' BAB.out (by decide)) (by decide)).mono ?_; rintro e w6 ⟨a6, n6, c6, rfl, ho, hb⟩
  rw [vM_limbs] at ho
  have HS_n := Lib.hid (show OwN _ _ _ (limbs (trc n (mm n (vM A) (vM B)))) from ho)
  have HA_n := Lib.hid (HA.out.up hb)
  have HB_n := Lib.hid (HB.out.up hb)
  have HC_n := Lib.hid (HC.out.up hb)
  have HAB_n := Lib.hid (HAB.out.up hb)
  have HBC_n := Lib.hid (HBC.out.up hb)
  have HX_n := Lib.hid (HX.out.up hb)
  have HY_n := Lib.hid (HY.out.up hb)
  have HBA_n := Lib.hid (HBA.out.up hb)
  have hbWn := bstep hbW hb
  clear HA HB HC HAB HBC HX HY HBA ho hb hbW
  have HA := HA_n; clear HA_n
  have HB := HB_n; clear HB_n
  have HC := HC_n; clear HC_n
  have HAB := HAB_n; clear HAB_n
  have HBC := HBC_n; clear HBC_n
  have HX := HX_n; clear HX_n
  have HY := HY_n; clear HY_n
  have HBA := HBA_n; clear HBA_n
  have HS := HS_n; clear HS_n
  have hbW := hbWn; clear hbWn
  go_wp2_with fail
  refine (mtrace_ok _ n _ (fun i j => limbs (mm n (vM B) (vM A) i j)) 100 _ HBA.out (by omega) (limbs_bd' BBA.out (by decide)) (by decide)).mono ?_; rintro e w7 ⟨a7, n7, c7, rfl, ho, hb⟩
  rw [vM_limbs, trc_comm] at ho
  have HT_n := Lib.hid (show OwN _ _ _ (limbs (trc n (mm n (vM A) (vM B)))) from ho)
  have HA_n := Lib.hid (HA.out.up hb)
  have HB_n := Lib.hid (HB.out.up hb)
  have HC_n := Lib.hid (HC.out.up hb)
  have HAB_n := Lib.hid (HAB.out.up hb)
  have HBC_n := Lib.hid (HBC.out.up hb)
  have HX_n := Lib.hid (HX.out.up hb)
  have HY_n := Lib.hid (HY.out.up hb)
  have HBA_n := Lib.hid (HBA.out.up hb)
  have HS_n := Lib.hid (HS.out.up hb)
  have hbWn := bstep hbW hb
  clear HA HB HC HAB HBC HX HY HBA HS ho hb hbW
  have HA := HA_n; clear HA_n
  have HB := HB_n; clear HB_n
  have HC := HC_n; clear HC_n
  have HAB := HAB_n; clear HAB_n
  have HBC := HBC_n; clear HBC_n
  have HX := HX_n; clear HX_n
  have HY := HY_n; clear HY_n
  have HBA := HBA_n; clear HBA_n
  have HS := HS_n; clear HS_n
  have HT := HT_n; clear HT_n
  have hbW := hbWn; clear hbWn
  go_wp2_with fail
  refine (one_any n _ (by omega)).mono ?_; rintro e w8 ⟨a8, c8, rows8, its8, rfl, ho, hb⟩
  have HONE_n := Lib.hid (ho.msR)
  have HA_n := Lib.hid (HA.out.up hb)
  have HB_n := Lib.hid (HB.out.up hb)
  have HC_n := Lib.hid (HC.out.up hb)
  have HAB_n := Lib.hid (HAB.out.up hb)
  have HBC_n := Lib.hid (HBC.out.up hb)
  have HX_n := Lib.hid (HX.out.up hb)
  have HY_n := Lib.hid (HY.out.up hb)
  have HBA_n := Lib.hid (HBA.out.up hb)
  have HS_n := Lib.hid (HS.out.up hb)
  have HT_n := Lib.hid (HT.out.up hb)
  have hbWn := bstep hbW hb
  clear HA HB HC HAB HBC HX HY HBA HS HT ho hb hbW
  have HA := HA_n; clear HA_n
  have HB := HB_n; clear HB_n
  have HC := HC_n; clear HC_n
  have HAB := HAB_n; clear HAB_n
  have HBC := HBC_n; clear HBC_n
  have HX := HX_n; clear HX_n
  have HY := HY_n; clear HY_n
  have HBA := HBA_n; clear HBA_n
  have HS := HS_n; clear HS_n
  have HT := HT_n; clear HT_n
  have HONE := HONE_n; clear HONE_n
  have hbW := hbWn; clear hbWn
  go_wp2_with fail
  refine (mmul_ok _ _ n ca _ A (fun i j => limbs (oneM i j)) 100 _ HA.out HONE.out (by omega) (fun i j hi hj => Nat.le_trans (HLA.out i j hi hj) (by decide)) (limbs_bd' BONE.out (by decide)) (by decide)).mono ?_; rintro e w9 ⟨a9, c9, rows9, its9, rfl, ho, hb⟩
  have HZ_n := Lib.hid ((ho.congr (G := fun i j => limbs ((vM A) i j)) (fun i j hi hj => by simp only [prodF, vM_limbs]; rw [mm_one _ i j hi hj])).msR)
  have HA_n := Lib.hid (HA.out.up hb)
  have HB_n := Lib.hid (HB.out.up hb)
  have HC_n := Lib.hid (HC.out.up hb)
  have HAB_n := Lib.hid (HAB.out.up hb)
  have HBC_n := Lib.hid (HBC.out.up hb)
  have HX_n := Lib.hid (HX.out.up hb)
  have HY_n := Lib.hid (HY.out.up hb)
  have HBA_n := Lib.hid (HBA.out.up hb)
  have HS_n := Lib.hid (HS.out.up hb)
  have HT_n := Lib.hid (HT.out.up hb)
  have HONE_n := Lib.hid (HONE.out.up hb)
  have hbWn := bstep hbW hb
  clear HA HB HC HAB HBC HX HY HBA HS HT HONE ho hb hbW
  have HA := HA_n; clear HA_n
  have HB := HB_n; clear HB_n
  have HC := HC_n; clear HC_n
  have HAB := HAB_n; clear HAB_n
  have HBC := HBC_n; clear HBC_n
  have HX := HX_n; clear HX_n
  have HY := HY_n; clear HY_n
  have HBA := HBA_n; clear HBA_n
  have HS := HS_n; clear HS_n
  have HT := HT_n; clear HT_n
  have HONE := HONE_n; clear HONE_n
  have HZ := HZ_n; clear HZ_n
  have hbW := hbWn; clear hbWn
  go_wp2_with fail
  refine (mmul_ok _ _ n _ ca (fun i j => limbs (oneM i j)) A 100 _ HONE.out HA.out (by omega) (limbs_bd' BONE.out (by decide)) (fun i j hi hj => Nat.le_trans (HLA.out i j hi hj) (by decide)) (by decide)).mono ?_; rintro e w10 ⟨a10, c10, rows10, its10, rfl, ho, hb⟩
  have HU_n := Lib.hid ((ho.congr (G := fun i j => limbs ((vM A) i j)) (fun i j hi hj => by simp only [prodF, vM_limbs]; rw [one_mm _ i j hi hj])).msR)
  have HA_n := Lib.hid (HA.out.up hb)
  have HB_n := Lib.hid (HB.out.up hb)
  have HC_n := Lib.hid (HC.out.up hb)
  have HAB_n := Lib.hid (HAB.out.up hb)
  have HBC_n := Lib.hid (HBC.out.up hb)
  have HX_n := Lib.hid (HX.out.up hb)
  have HY_n := Lib.hid (HY.out.up hb)
  have HBA_n := Lib.hid (HBA.out.up hb)
  have HS_n := Lib.hid (HS.out.up hb)
  have HT_n := Lib.hid (HT.out.up hb)
  have HONE_n := Lib.hid (HONE.out.up hb)
  have HZ_n := Lib.hid (HZ.out.up hb)
  have hbWn := bstep hbW hb
  clear HA HB HC HAB HBC HX HY HBA HS HT HONE HZ ho hb hbW
  have HA := HA_n; clear HA_n
  have HB := HB_n; clear HB_n
  have HC := HC_n; clear HC_n
  have HAB := HAB_n; clear HAB_n
  have HBC := HBC_n; clear HBC_n
  have HX := HX_n; clear HX_n
  have HY := HY_n; clear HY_n
  have HBA := HBA_n; clear HBA_n
  have HS := HS_n; clear HS_n
  have HT := HT_n; clear HT_n
  have HONE := HONE_n; clear HONE_n
  have HZ := HZ_n; clear HZ_n
  have HU := HU_n; clear HU_n
  have hbW := hbWn; clear hbWn
  go_wp2_with fail
  refine (same_eq _ _ n _ _ (fun _ => n) (fun i j => limbs (mm n (mm n (vM A) (vM B)) (vM C) i j)) _ HX.out HY.out (by omega) (fun _ _ => by omega)).mono ?_; rintro e wS ⟨rfl, hb⟩
  have HA_n := Lib.hid (HA.out.up hb)
  have HB_n := Lib.hid (HB.out.up hb)
  have HC_n := Lib.hid (HC.out.up hb)
  have HAB_n := Lib.hid (HAB.out.up hb)
  have HBC_n := Lib.hid (HBC.out.up hb)
  have HX_n := Lib.hid (HX.out.up hb)
  have HY_n := Lib.hid (HY.out.up hb)
  have HBA_n := Lib.hid (HBA.out.up hb)
  have HS_n := Lib.hid (HS.out.up hb)
  have HT_n := Lib.hid (HT.out.up hb)
  have HONE_n := Lib.hid (HONE.out.up hb)
  have HZ_n := Lib.hid (HZ.out.up hb)
  have HU_n := Lib.hid (HU.out.up hb)
  have hbWn := bstep hbW hb
  clear HA HB HC HAB HBC HX HY HBA HS HT HONE HZ HU hb hbW
  have HA := HA_n; clear HA_n
  have HB := HB_n; clear HB_n
  have HC := HC_n; clear HC_n
  have HAB := HAB_n; clear HAB_n
  have HBC := HBC_n; clear HBC_n
  have HX := HX_n; clear HX_n
  have HY := HY_n; clear HY_n
  have HBA := HBA_n; clear HBA_n
  have HS := HS_n; clear HS_n
  have HT := HT_n; clear HT_n
  have HONE := HONE_n; clear HONE_n
  have HZ := HZ_n; clear HZ_n
  have HU := HU_n; clear HU_n
  have hbW := hbWn; clear hbWn
  go_wp2_with fail
  refine (nats_eq _ _ _ _ _ _ _ _ HS.out.ns.nr HT.out.ns.nr (Nat.le_trans HS.out.ns.le HS.out.ns.cm)).mono ?_; rintro e wS ⟨rfl, hb⟩
  have HA_n := Lib.hid (HA.out.up hb)
  have HB_n := Lib.hid (HB.out.up hb)
  have HC_n := Lib.hid (HC.out.up hb)
  have HAB_n := Lib.hid (HAB.out.up hb)
  have HBC_n := Lib.hid (HBC.out.up hb)
  have HX_n := Lib.hid (HX.out.up hb)
  have HY_n := Lib.hid (HY.out.up hb)
  have HBA_n := Lib.hid (HBA.out.up hb)
  have HS_n := Lib.hid (HS.out.up hb)
  have HT_n := Lib.hid (HT.out.up hb)
  have HONE_n := Lib.hid (HONE.out.up hb)
  have HZ_n := Lib.hid (HZ.out.up hb)
  have HU_n := Lib.hid (HU.out.up hb)
  have hbWn := bstep hbW hb
  clear HA HB HC HAB HBC HX HY HBA HS HT HONE HZ HU hb hbW
  have HA := HA_n; clear HA_n
  have HB := HB_n; clear HB_n
  have HC := HC_n; clear HC_n
  have HAB := HAB_n; clear HAB_n
  have HBC := HBC_n; clear HBC_n
  have HX := HX_n; clear HX_n
  have HY := HY_n; clear HY_n
  have HBA := HBA_n; clear HBA_n
  have HS := HS_n; clear HS_n
  have HT := HT_n; clear HT_n
  have HONE := HONE_n; clear HONE_n
  have HZ := HZ_n; clear HZ_n
  have HU := HU_n; clear HU_n
  have hbW := hbWn; clear hbWn
  go_wp2_with fail
  refine (same_eq _ _ n _ _ (fun _ => n) (fun i j => limbs (vM A i j)) _ HZ.out HU.out (by omega) (fun _ _ => by omega)).mono ?_; rintro e wS ⟨rfl, hb⟩
  have HA_n := Lib.hid (HA.out.up hb)
  have HB_n := Lib.hid (HB.out.up hb)
  have HC_n := Lib.hid (HC.out.up hb)
  have HAB_n := Lib.hid (HAB.out.up hb)
  have HBC_n := Lib.hid (HBC.out.up hb)
  have HX_n := Lib.hid (HX.out.up hb)
  have HY_n := Lib.hid (HY.out.up hb)
  have HBA_n := Lib.hid (HBA.out.up hb)
  have HS_n := Lib.hid (HS.out.up hb)
  have HT_n := Lib.hid (HT.out.up hb)
  have HONE_n := Lib.hid (HONE.out.up hb)
  have HZ_n := Lib.hid (HZ.out.up hb)
  have HU_n := Lib.hid (HU.out.up hb)
  have hbWn := bstep hbW hb
  clear HA HB HC HAB HBC HX HY HBA HS HT HONE HZ HU hb hbW
  have HA := HA_n; clear HA_n
  have HB := HB_n; clear HB_n
  have HC := HC_n; clear HC_n
  have HAB := HAB_n; clear HAB_n
  have HBC := HBC_n; clear HBC_n
  have HX := HX_n; clear HX_n
  have HY := HY_n; clear HY_n
  have HBA := HBA_n; clear HBA_n
  have HS := HS_n; clear HS_n
  have HT := HT_n; clear HT_n
  have HONE := HONE_n; clear HONE_n
  have HZ := HZ_n; clear HZ_n
  have HU := HU_n; clear HU_n
  have hbW := hbWn; clear hbWn
  clear HB HC HAB HBC HX HY HBA HS HT HONE HU
  go_wp2_with fail
  go_loopw [25] (fun px wr => ∃ p : Nat, p ≤ n ∧ px = .int .i64 p ∧ Below wS.heap.size wS wr) (fun px _ => n - (intOf px).toNat)
  case atStart => exact ⟨0, by omega, rfl, bnil _⟩
  case round =>
    obtain ⟨p, hp, rfl, hb⟩ := hrel
    have HBr := Lib.hid hb; clear hb
    by_cases hpn : p < n
    · obtain ⟨bz, oz, rfl, hbz, hcz⟩ := HZ.out.addr (by omega)
      obtain ⟨az, cz, x0, _, _, _, hrz⟩ := hcz p hpn
      obtain ⟨ba, oa, rfl, hba, hca⟩ := HA.out.addr (by omega)
      obtain ⟨ay, cy, y0, _, _, _, hra⟩ := hca p hpn
      have HRZ := Lib.hid hrz
      have HRA := Lib.hid hra
      have x1 := (HBr.out.cell (p := ⟨bz, oz + p, none⟩) hbz).trans x0
      clear hcz hca hrz hra
      have p0 : (0 : Int) ≤ (p : Int) := by omega
      have p1 : (p : Int) < (n : Int) := by omega
      generalize wr = wo at *
      go_wp2_with fail
      go_loopw [26] (fun qx wr => ∃ q : Nat, q ≤ n ∧ qx = .int .i64 q ∧ Below wS.heap.size wS wr) (fun qx _ => n - (intOf qx).toNat)
      case atStart => exact ⟨0, by omega, rfl, HBr.out⟩
      case round =>
        clear x1
        obtain ⟨q, hq, rfl, hb⟩ := hrel
        have HBq := Lib.hid hb; clear hb
        by_cases hqn : q < n
        · obtain ⟨b2, o2, rfl, hb2, hc2⟩ := NsR.addr HRZ.out (by omega)
          obtain ⟨a3, n3, c3, u0, hu⟩ := hc2 q hqn
          obtain ⟨b4, o4, rfl, hb4, hc4⟩ := NsR.addr HRA.out (by omega)
          obtain ⟨a5, n5, c5, v0, hv⟩ := hc4 q hqn
          have x1 := (HBq.out.cell (p := ⟨bz, oz + p, none⟩) hbz).trans x0
          have y1 := (HBq.out.cell (p := ⟨ba, oa + p, none⟩) hba).trans y0
          have u1 := (HBq.out.cell (p := ⟨b2, o2 + q, none⟩) hb2).trans u0
          have v1 := (HBq.out.cell (p := ⟨b4, o4 + q, none⟩) hb4).trans v0
          have HU := Lib.hid (hu.up HBq.out)
          have HV := Lib.hid (hv.up HBq.out)
          clear hc2 hc4 u0 v0 hu hv
          have q0 : (0 : Int) ≤ (q : Int) := by omega
          have q1 : (q : Int) < (n : Int) := by omega
          have hcm : ∀ k, Calls Tryd.prog 29 #[.slice a3 n3 c3, .slice a5 n5 c5] (wr.drewN k) fun e w' => e = .returned (.int .i64 0) ∧ ∃ m, w' = (wr.drewN k).drewN m := fun k => by
            have := natCmp_any a3 a5 n3 n5 c3 c5 _ _ (wr.drewN k) (HU.out.up (bdrewN (bnil wr) k)).nr (HV.out.up (bdrewN (bnil wr) k)).nr HU.out.le HV.out.le HU.out.cm HV.out.cm
            rwa [val_limbs, cmpN_same] at this
          have HCM := Lib.hid hcm; clear hcm
          go_wp2_with fail
          go_quiet ((go_at_call 29; exact Calls.quiet_of (HCM.out _)))
          have HBn := Lib.hid (below_drewN HBq.out nq)
          clear HCM
          go_wp2
          go_roundw
          case rel => exact ⟨q + 1, by omega, by go_num, HBn.out⟩
          case measure => simp [intOf]; omega
        · obtain rfl : q = n := by omega
          go_wp2
          go_roundw
          case rel => exact ⟨p + 1, by omega, by go_num, HBq.out⟩
          case measure => simp [intOf]; omega
    · obtain rfl : n = p := by omega
      have hb := HBr.out
      have HAp := Lib.hid (HA.out.up hb)
      have hbWn := bstep hbW hb
      clear HA HZ hb hbW HBr
      have HA := HAp; clear HAp
      have hbW := hbWn; clear hbWn
      go_wp2_with fail
      refine (matPow_ok _ n ca 2 A 8 _ HA.out (by omega) HLA.out (by decide) (by decide)).mono ?_; rintro e w11 ⟨a11, c11, rows11, its11, rfl, ho, hb⟩
      have H2_n := Lib.hid (ho.msR)
      have HA_n := Lib.hid (HA.out.up hb)
      have hbWn := bstep hbW hb
      clear HA ho hb hbW
      have HA := HA_n; clear HA_n
      have H2 := H2_n; clear H2_n
      have hbW := hbWn; clear hbWn
      go_wp2_with fail
      refine (matPow_ok _ n ca 3 A 8 _ HA.out (by omega) HLA.out (by decide) (by decide)).mono ?_; rintro e w12 ⟨a12, c12, rows12, its12, rfl, ho, hb⟩
      have H3_n := Lib.hid (ho.msR)
      have HA_n := Lib.hid (HA.out.up hb)
      have H2_n := Lib.hid (H2.out.up hb)
      have hbWn := bstep hbW hb
      clear HA H2 ho hb hbW
      have HA := HA_n; clear HA_n
      have H2 := H2_n; clear H2_n
      have H3 := H3_n; clear H3_n
      have hbW := hbWn; clear hbWn
      go_wp2_with fail
      refine (matPow_ok _ n ca 5 A 8 _ HA.out (by omega) HLA.out (by decide) (by decide)).mono ?_; rintro e w13 ⟨a13, c13, rows13, its13, rfl, ho, hb⟩
      have H5_n := Lib.hid (ho.msR)
      have HA_n := Lib.hid (HA.out.up hb)
      have H2_n := Lib.hid (H2.out.up hb)
      have H3_n := Lib.hid (H3.out.up hb)
      have hbWn := bstep hbW hb
      clear HA H2 H3 ho hb hbW
      have HA := HA_n; clear HA_n
      have H2 := H2_n; clear H2_n
      have H3 := H3_n; clear H3_n
      have H5 := H5_n; clear H5_n
      have hbW := hbWn; clear hbWn
      go_wp2_with fail
      refine (mmul_ok _ _ n _ _ (fun i j => limbs (mpow n (vM A) 2 i j)) (fun i j => limbs (mpow n (vM A) 3 i j)) 100 _ H2.out H3.out (by omega) (limbs_bd' BP2.out (by decide)) (limbs_bd' BP3.out (by decide)) (by decide)).mono ?_; rintro e w14 ⟨a14, c14, rows14, its14, rfl, ho, hb⟩
      have HW_n := Lib.hid ((ho.congr (G := fun i j => limbs ((mpow n (vM A) 5) i j)) (fun i j hi hj => by simp only [prodF, vM_limbs]; rw [mpow_add n (vM A) 2 3 i j hi hj])).msR)
      have HA_n := Lib.hid (HA.out.up hb)
      have H2_n := Lib.hid (H2.out.up hb)
      have H3_n := Lib.hid (H3.out.up hb)
      have H5_n := Lib.hid (H5.out.up hb)
      have hbWn := bstep hbW hb
      clear HA H2 H3 H5 ho hb hbW
      have HA := HA_n; clear HA_n
      have H2 := H2_n; clear H2_n
      have H3 := H3_n; clear H3_n
      have H5 := H5_n; clear H5_n
      have HW := HW_n; clear HW_n
      have hbW := hbWn; clear hbWn
      go_wp2_with fail
      refine (same_eq _ _ n _ _ (fun _ => n) (fun i j => limbs (mpow n (vM A) 5 i j)) _ HW.out H5.out (by omega) (fun _ _ => by omega)).mono ?_; rintro e wS ⟨rfl, hb⟩
      have HA_n := Lib.hid (HA.out.up hb)
      have H2_n := Lib.hid (H2.out.up hb)
      have H3_n := Lib.hid (H3.out.up hb)
      have H5_n := Lib.hid (H5.out.up hb)
      have HW_n := Lib.hid (HW.out.up hb)
      have hbWn := bstep hbW hb
      clear HA H2 H3 H5 HW hb hbW
      have HA := HA_n; clear HA_n
      have H2 := H2_n; clear H2_n
      have H3 := H3_n; clear H3_n
      have H5 := H5_n; clear H5_n
      have HW := HW_n; clear HW_n
      have hbW := hbWn; clear hbWn
      go_wp2
      go_ret
      exact ⟨rfl, hbW⟩

theorem ring_row (aa : Option Addr) (na ca : Nat) (ga : Nat → Nat) (A : Nat → Nat → List Nat) (ab : Option Addr) (nb cb : Nat) (gb : Nat → Nat) (B : Nat → Nat → List Nat) (ac : Option Addr) (nc cc : Nat) (gc : Nat → Nat) (C : Nat → Nat → List Nat) (W : World) (R : Nat → Addr) (hS : Sent W R)
    (hA : MsR W aa na ga A) (la : na ≤ ca) (za : ca * 24 ≤ 140737488351232) (qa : aa = none → ca = 0) (hB : MsR W ab nb gb B) (lb : nb ≤ cb) (zb : cb * 24 ≤ 140737488351232) (qb : ab = none → cb = 0) (hC : MsR W ac nc gc C) (lc : nc ≤ cc) (zc : cc * 24 ≤ 140737488351232) (qc : ac = none → cc = 0) :
    Calls Tryd.prog 5 #[.slice aa na ca, .slice ab nb cb, .slice ac nc cc] W (TrueBelow W) := by
  by_cases h : Light na ga A ∧ Light nb gb B ∧ Light nc gc C ∧ (Square na ga ∧ Square nb gb ∧ na = nb) ∧ (Square nb gb ∧ Square nc gc ∧ nb = nc)
  · obtain ⟨l1, l2, l3, ⟨s1, s2, rfl⟩, _, s3, rfl⟩ := h
    exact ring_ok aa ab ac na ca cb cc ga gb gc A B C W hA hB hC l1 l2 l3 s1 s2 s3
  · exact ring_out aa ab ac na nb nc ca cb cc ga gb gc A B C W R hS.glob hA hB hC (by unfold maxLen; omega) (by unfold maxLen; omega) (by unfold maxLen; omega) h
end Go.Proofs.YtmdicmcmalmbaaaDoor
