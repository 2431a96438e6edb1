/- The walk of edenlaw07.RowCells. -/
import Derived.Test.YtkgalgmjdfhhbaaDoorRowQ
import Derived.Deep.RegionHeld3
namespace Go.Proofs.YtkgalgmjdfhhbaaDoor
open Go.RowKit
set_option linter.unusedVariables false
set_option maxRecDepth 100000

theorem cup {w w' : World} {a : Addr} {v : Value} (hb : Below w.heap.size w w') (h : w.cell? a = some v) : w'.cell? a = some v := (hb.cell (World.block_lt_of_cell? _ _ h)).trans h
theorem cutV_len {k p : Int} {L C Q : List Int} {i n : Int} : (cutV k p L C Q i n).length ≤ maxLen := by
  unfold cutV
  split
  · rename_i h
    rw [valsF_len]
    unfold cutErr at h
    split at h
    · cases h
    · split at h
      · cases h
      · split at h
        · cases h
        · unfold maxLen; omega
  · simp
theorem rowcheck_e (k p : Int) (aL aC aR : Option Addr) (nL cL nC cC nR cR : Nat) (L C Q : List Int) (W : World) (R : Nat → Addr) (hG : Glob W R) (hM : RowM W aL nL cL L aC nC cC C aR nR cR Q) :
    Calls Tryd.prog 26 #[.int .i64 k, rowV p aL nL cL aC nC cC aR nR cR] W fun e w' => ∃ ev, e = .returned ev ∧ ErrIs W.heap.size R w' ev (tell opRow (rowErr k p L C Q)) ∧ Below W.heap.size W w' := by
  cases h : rowErr k p L C Q with
  | none =>
    refine (rowcheck_ok0 k p aL aC aR nL cL nC cC nR cR L C Q W R hG hM h).mono ?_
    rintro e w' ⟨rfl, hb⟩
    exact ⟨_, rfl, rfl, hb⟩
  | some x =>
    refine (rowcheck_err k p aL aC aR nL cL nC cC nR cR L C Q W R hG hM x h).mono ?_
    rintro e w' ⟨g, rfl, he, hb⟩
    exact ⟨_, rfl, he, hb⟩
theorem refcheck_e (k p : Int) (aL aC aR : Option Addr) (nL cL nC cC nR cR : Nat) (L C Q : List Int) (W : World) (hM : RowM W aL nL cL L aC nC cC C aR nR cR Q) :
    Calls Tryd.prog 27 #[.int .i64 k, rowV p aL nL cL aC nC cC aR nR cR] W fun e w' => ∃ N a1 n1 c1 a2 n2 c2, e = .returned (.agg #[.int .i64 N, .slice a1 n1 c1, .slice a2 n2 c2]) ∧ WantIs w' (.agg #[.int .i64 N, .slice a1 n1 c1, .slice a2 n2 c2]) (tell opRow (rowErr k p L C Q)) ∧ Below W.heap.size W w' := by
  cases h : rowErr k p L C Q with
  | none =>
    refine (refcheck_ok0 k p aL aC aR nL cL nC cC nR cR L C Q W hM h).mono ?_
    rintro e w' ⟨rfl, hb⟩
    exact ⟨0, none, 0, 0, none, 0, 0, rfl, errVal_none w', hb⟩
  | some x =>
    refine (refcheck_err k p aL aC aR nL cL nC cC nR cR L C Q W hM x h).mono ?_
    rintro e w' ⟨b1, b2, rfl, _, he, hb⟩
    exact ⟨_, _, _, _, _, _, _, rfl, he, hb⟩

set_option maxHeartbeats 16000000 in
theorem rowcells_row (k p : Int) (aL : Option Addr) (nL cL : Nat) (L : List Int) (aC : Option Addr) (nC cC : Nat) (C : List Int) (aR : Option Addr) (nR cR : Nat) (Q : List Int) (i n : Int) (W : World) (R : Nat → Addr) (hE : Env W R) (hM : RowM W aL nL cL L aC nC cC C aR nR cR Q) :
    Calls Tryd.prog 7 #[.int .i64 k, rowV p aL nL cL aC nC cC aR nR cR, .int .i64 i, .int .i64 n] W (TrueBelow W) := by
  have hL8 : nL * 8 ≤ 140737488351232 := hM.l.n8
  have hC8 : nC * 8 ≤ 140737488351232 := hM.c.n8
  have hR8 : nR * 8 ≤ 140737488351232 := hM.r.n8
  obtain ⟨Wb, hWb⟩ : ∃ Wb, W.alloc (.cells #[.int .i64 p, .slice aL nL cL, .slice aC nC cC, .slice aR nR cR] 26) = Wb := ⟨_, rfl⟩
  have HX : Hid (Wb.cell? ⟨W.heap.size, 0, none⟩ = some (.int .i64 p) ∧ Wb.cell? ⟨W.heap.size, 1, none⟩ = some (.slice aL nL cL) ∧ Wb.cell? ⟨W.heap.size, 2, none⟩ = some (.slice aC nC cC) ∧ Wb.cell? ⟨W.heap.size, 3, none⟩ = some (.slice aR nR cR)) := by rw [← hWb]; exact ⟨by simp, by simp, by simp, by simp⟩
  have HBX : Hid (Below W.heap.size W Wb) := by rw [← hWb]; exact balloc (bnil W) _
  have HM := Lib.hid hM; clear hM
  have HE := Lib.hid hE; clear hE
  have HWB := Lib.hid hWb; clear hWb
  go_enter Tryd.func7, Tryd.ntmps7
  go_wp2_with fail
  rw [HWB.out]
  refine (awake07 _ R (HE.out.up HBX.out).sent.glob).mono ?_; rintro e w1 ⟨rfl, hb1⟩
  have HB1 := Lib.hid (HBX.out.trans (hb1.mono HBX.out.size))
  have x0 := cup hb1 HX.out.1
  have x1 := cup hb1 HX.out.2.1
  have x2 := cup hb1 HX.out.2.2.1
  have x3 := cup hb1 HX.out.2.2.2
  have HX1 := Lib.hid (And.intro x0 (And.intro x1 (And.intro x2 x3)))
  clear hb1
  go_wp2_with fail
  refine (lent7 p aL aC aR nL cL nC cC nR cR L C Q _ (HM.out.up HB1.out)).mono ?_; rintro e w2 ⟨gL, gC, gR, rfl, hlL, hlC, hlR, hb2⟩
  obtain ⟨Wm, hWm⟩ : ∃ Wm, w2.alloc (.cells #[.int .i64 p, .slice (some ⟨gL, 0, none⟩) nL (nL + 2), .slice (some ⟨gC, 0, none⟩) nC (nC + 2), .slice (some ⟨gR, 0, none⟩) nR (nR + 2)] 26) = Wm := ⟨_, rfl⟩
  have HMB : Hid (Wm.cell? ⟨w2.heap.size, 0, none⟩ = some (.int .i64 p) ∧ Wm.cell? ⟨w2.heap.size, 1, none⟩ = some (.slice (some ⟨gL, 0, none⟩) nL (nL + 2)) ∧ Wm.cell? ⟨w2.heap.size, 2, none⟩ = some (.slice (some ⟨gC, 0, none⟩) nC (nC + 2)) ∧ Wm.cell? ⟨w2.heap.size, 3, none⟩ = some (.slice (some ⟨gR, 0, none⟩) nR (nR + 2))) := by rw [← hWm]; exact ⟨cell_new rfl rfl, cell_new rfl rfl, cell_new rfl rfl, cell_new rfl rfl⟩
  have hbm : Below w2.heap.size w2 Wm := by rw [← hWm]; exact balloc (bnil w2) _
  have HLL := Lib.hid (hlL.up hbm)
  have HLC := Lib.hid (hlC.up hbm)
  have HLR := Lib.hid (hlR.up hbm)
  have HMM : Hid (RowM Wm (some ⟨gL, 0, none⟩) nL (nL + 2) L (some ⟨gC, 0, none⟩) nC (nC + 2) C (some ⟨gR, 0, none⟩) nR (nR + 2) Q) := ⟨(hlL.up hbm).sl hL8, (hlC.up hbm).sl hC8, (hlR.up hbm).sl hR8⟩
  have hb12 := hb2.trans (hbm.mono hb2.size)
  have HB2 := Lib.hid (bstep HB1.out hb12)
  have HWM := Lib.hid hWm
  have HX2 := Lib.hid (And.intro (cup hb12 x0) (And.intro (cup hb12 x1) (And.intro (cup hb12 x2) (cup hb12 x3))))
  clear hWm hlL hlC hlR hbm hb2 hb12 x0 x1 x2 x3
  have m0 := HMB.out.1
  have m1 := HMB.out.2.1
  have m2 := HMB.out.2.2.1
  have m3 := HMB.out.2.2.2
  rw [← HWM.out] at m0 m1 m2 m3
  go_wp2_with fail
  rw [HWM.out]
  refine (rowcell_any k p i (some ⟨gL, 0, none⟩) (some ⟨gC, 0, none⟩) (some ⟨gR, 0, none⟩) nL (nL + 2) nC (nC + 2) nR (nR + 2) L C Q _ R (HE.out.up HB2.out).sent.glob HMM.out).mono ?_; rintro e w3 ⟨ev3, rfl, he3, hb3⟩
  have HE3 := Lib.hid he3
  have HB3 := Lib.hid (bstep HB2.out hb3)
  have HD3 := Lib.hid hb3
  clear m0 m1 m2 m3 he3
  have x0 := cup hb3 HX2.out.1
  have x1 := cup hb3 HX2.out.2.1
  have x2 := cup hb3 HX2.out.2.2.1
  have x3 := cup hb3 HX2.out.2.2.2
  clear hb3
  go_wp2_with fail
  refine (refcell_any k p i aL aC aR nL cL nC cC nR cR L C Q _ (HM.out.up HB3.out)).mono ?_; rintro e w4 ⟨N4, a41, n41, c41, a42, n42, c42, rfl, hw4, hb4⟩
  obtain ⟨Wf, hWf⟩ : ∃ Wf, w4.alloc (.cells #[.int .i64 N4, .slice a41 n41 c41, .slice a42 n42 c42] 47) = Wf := ⟨_, rfl⟩
  have hbf : Below w4.heap.size w4 Wf := by rw [← hWf]; exact balloc (bnil w4) _
  have HFB : Hid (Wf.cell? ⟨w4.heap.size, 0, none⟩ = some (.int .i64 N4) ∧ Wf.cell? ⟨w4.heap.size, 1, none⟩ = some (.slice a41 n41 c41) ∧ Wf.cell? ⟨w4.heap.size, 2, none⟩ = some (.slice a42 n42 c42)) := by rw [← hWf]; exact ⟨cell_new rfl rfl, cell_new rfl rfl, cell_new rfl rfl⟩
  have HW4 := Lib.hid (hw4.up hbf)
  have hb34 := hb4.trans (hbf.mono hb4.size)
  have HE4 := Lib.hid (HE3.out.up hb34)
  have HB4 := Lib.hid (bstep HB3.out hb34)
  have HD4 := Lib.hid (bstep HD3.out hb34)
  have HX4 := Lib.hid (And.intro (cup hb34 x0) (And.intro (cup hb34 x1) (And.intro (cup hb34 x2) (cup hb34 x3))))
  have HWF := Lib.hid hWf
  clear hWf hbf hw4 hb4 hb34 x0 x1 x2 x3 HE3
  have m0 := cup HD4.out HMB.out.1
  have m1 := cup HD4.out HMB.out.2.1
  have m2 := cup HD4.out HMB.out.2.2.1
  have m3 := cup HD4.out HMB.out.2.2.2
  rw [← HWF.out] at m0 m1 m2 m3
  go_wp2_with fail
  rw [HWF.out] at m0 m1 m2 m3
  rw [HWF.out]
  refine (rowcut_any k p i n (some ⟨gL, 0, none⟩) (some ⟨gC, 0, none⟩) (some ⟨gR, 0, none⟩) nL (nL + 2) nC (nC + 2) nR (nR + 2) L C Q _ R (HE.out.up HB4.out).sent.glob (HMM.out.up HD4.out)).mono ?_; rintro e w5 ⟨a5, n5, c5, ev5, rfl, hk5, he5, hb5⟩
  have HK5 := Lib.hid hk5
  have HU5 := Lib.hid he5
  have HE5 := Lib.hid (HE4.out.up hb5)
  have HW5 := Lib.hid (HW4.out.up hb5)
  have HB5 := Lib.hid (bstep HB4.out hb5)
  have HD5 := Lib.hid (bstep HD4.out hb5)
  have HF5 := Lib.hid hb5
  clear m0 m1 m2 m3 hk5 he5 HE4 HW4
  have x0 := cup hb5 HX4.out.1
  have x1 := cup hb5 HX4.out.2.1
  have x2 := cup hb5 HX4.out.2.2.1
  have x3 := cup hb5 HX4.out.2.2.2
  clear hb5
  go_wp2_with fail
  refine (refcut_any k p i n aL aC aR nL cL nC cC nR cR L C Q _ (HM.out.up HB5.out)).mono ?_; rintro e w6 ⟨a6, n6, c6, N6, a61, n61, c61, a62, n62, c62, rfl, hk6, hw6, hb6⟩
  obtain ⟨Wh, hWh⟩ : ∃ Wh, w6.alloc (.cells #[.int .i64 N6, .slice a61 n61 c61, .slice a62 n62 c62] 47) = Wh := ⟨_, rfl⟩
  have hbh : Below w6.heap.size w6 Wh := by rw [← hWh]; exact balloc (bnil w6) _
  have HHB : Hid (Wh.cell? ⟨w6.heap.size, 0, none⟩ = some (.int .i64 N6) ∧ Wh.cell? ⟨w6.heap.size, 1, none⟩ = some (.slice a61 n61 c61) ∧ Wh.cell? ⟨w6.heap.size, 2, none⟩ = some (.slice a62 n62 c62)) := by rw [← hWh]; exact ⟨cell_new rfl rfl, cell_new rfl rfl, cell_new rfl rfl⟩
  have hb56 := Below.drew (hb6.trans (hbh.mono hb6.size))
  have hdr := hbh.drew
  have HW6 := Lib.hid (hw6.up hdr)
  have HK6 := Lib.hid (hk6.up hdr)
  have HV6 := Lib.hid (HK5.out.up hb56)
  have HU6 := Lib.hid (HU5.out.up hb56)
  have HE6 := Lib.hid (HE5.out.up hb56)
  have HT6 := Lib.hid (HW5.out.up hb56)
  have HB6 := Lib.hid (bstep HB5.out hb56)
  have HD6 := Lib.hid (bstep HD5.out hb56)
  have HENV := Lib.hid (HE.out.up HB6.out)
  have HM6 := Lib.hid (HM.out.up HB6.out)
  have HMM6 := Lib.hid (HMM.out.up HD6.out)
  have HLL6 := Lib.hid (HLL.out.up HD6.out)
  have HLC6 := Lib.hid (HLC.out.up HD6.out)
  have HLR6 := Lib.hid (HLR.out.up HD6.out)
  have hf56 := bstep HF5.out hb56
  have hs0 : Wh.drew.cell? ⟨W.heap.size, 0, none⟩ = some (.int .i64 p) ∧ Wh.drew.cell? ⟨W.heap.size, 1, none⟩ = some (.slice aL nL cL) ∧ Wh.drew.cell? ⟨W.heap.size, 2, none⟩ = some (.slice aC nC cC) ∧ Wh.drew.cell? ⟨W.heap.size, 3, none⟩ = some (.slice aR nR cR) ∧ Wh.drew.cell? ⟨w2.heap.size, 0, none⟩ = some (.int .i64 p) ∧ Wh.drew.cell? ⟨w2.heap.size, 1, none⟩ = some (.slice (some ⟨gL, 0, none⟩) nL (nL + 2)) ∧ Wh.drew.cell? ⟨w2.heap.size, 2, none⟩ = some (.slice (some ⟨gC, 0, none⟩) nC (nC + 2)) ∧ Wh.drew.cell? ⟨w2.heap.size, 3, none⟩ = some (.slice (some ⟨gR, 0, none⟩) nR (nR + 2)) ∧ Wh.drew.cell? ⟨w4.heap.size, 0, none⟩ = some (.int .i64 N4) ∧ Wh.drew.cell? ⟨w4.heap.size, 1, none⟩ = some (.slice a41 n41 c41) ∧ Wh.drew.cell? ⟨w4.heap.size, 2, none⟩ = some (.slice a42 n42 c42) ∧ Wh.drew.cell? ⟨w6.heap.size, 0, none⟩ = some (.int .i64 N6) ∧ Wh.drew.cell? ⟨w6.heap.size, 1, none⟩ = some (.slice a61 n61 c61) ∧ Wh.drew.cell? ⟨w6.heap.size, 2, none⟩ = some (.slice a62 n62 c62) := ⟨cup hb56 x0, cup hb56 x1, cup hb56 x2, cup hb56 x3, cup HD6.out HMB.out.1, cup HD6.out HMB.out.2.1, cup HD6.out HMB.out.2.2.1, cup HD6.out HMB.out.2.2.2, cup hf56 HFB.out.1, cup hf56 HFB.out.2.1, cup hf56 HFB.out.2.2, HHB.out.1, HHB.out.2.1, HHB.out.2.2⟩
  have HWH := Lib.hid hWh
  clear hWh hbh hdr hw6 hk6 hb6 hb56 hf56 x0 x1 x2 x3 HU5 HE5 HW5 HK5 HLL HLC HLR HMM
  go_wp2_with fail
  rw [HWH.out]
  have HS0 := Lib.hid hs0
  clear hs0
  go_region_held3 (fun w' => w'.cell? ⟨W.heap.size, 0, none⟩ = some (.int .i64 p) ∧ w'.cell? ⟨W.heap.size, 1, none⟩ = some (.slice aL nL cL) ∧ w'.cell? ⟨W.heap.size, 2, none⟩ = some (.slice aC nC cC) ∧ w'.cell? ⟨W.heap.size, 3, none⟩ = some (.slice aR nR cR) ∧ w'.cell? ⟨w2.heap.size, 0, none⟩ = some (.int .i64 p) ∧ w'.cell? ⟨w2.heap.size, 1, none⟩ = some (.slice (some ⟨gL, 0, none⟩) nL (nL + 2)) ∧ w'.cell? ⟨w2.heap.size, 2, none⟩ = some (.slice (some ⟨gC, 0, none⟩) nC (nC + 2)) ∧ w'.cell? ⟨w2.heap.size, 3, none⟩ = some (.slice (some ⟨gR, 0, none⟩) nR (nR + 2)) ∧ w'.cell? ⟨w4.heap.size, 0, none⟩ = some (.int .i64 N4) ∧ w'.cell? ⟨w4.heap.size, 1, none⟩ = some (.slice a41 n41 c41) ∧ w'.cell? ⟨w4.heap.size, 2, none⟩ = some (.slice a42 n42 c42) ∧ w'.cell? ⟨w6.heap.size, 0, none⟩ = some (.int .i64 N6) ∧ w'.cell? ⟨w6.heap.size, 1, none⟩ = some (.slice a61 n61 c61) ∧ w'.cell? ⟨w6.heap.size, 2, none⟩ = some (.slice a62 n62 c62))
    (first | with_reducible exact HS13.out | with_reducible exact HS12.out | with_reducible exact HS11.out | with_reducible exact HS10.out | with_reducible exact HS9.out | with_reducible exact HS8.out | with_reducible exact HS7.out | with_reducible exact HS0.out | go_keep)
    (first
      | (go_at_call 22; have q := HD11; clear q; refine (rawIs_same _ ev5 _ (tell opRow (cutErr k p L C Q i n)) _ R (HENV.out.up HD11.out) (HU6.out.up HD11.out) (HW6.out.up HD11.out)).mono ?_; rintro e w12 ⟨rfl, hb12⟩; have HD12 := Lib.hid (bstep HD11.out hb12); have HS12 := Lib.hid (And.intro (cup hb12 (HS11.out).1) (And.intro (cup hb12 (HS11.out).2.1) (And.intro (cup hb12 (HS11.out).2.2.1) (And.intro (cup hb12 (HS11.out).2.2.2.1) (And.intro (cup hb12 (HS11.out).2.2.2.2.1) (And.intro (cup hb12 (HS11.out).2.2.2.2.2.1) (And.intro (cup hb12 (HS11.out).2.2.2.2.2.2.1) (And.intro (cup hb12 (HS11.out).2.2.2.2.2.2.2.1) (And.intro (cup hb12 (HS11.out).2.2.2.2.2.2.2.2.1) (And.intro (cup hb12 (HS11.out).2.2.2.2.2.2.2.2.2.1) (And.intro (cup hb12 (HS11.out).2.2.2.2.2.2.2.2.2.2.1) (And.intro (cup hb12 (HS11.out).2.2.2.2.2.2.2.2.2.2.2.1) (And.intro (cup hb12 (HS11.out).2.2.2.2.2.2.2.2.2.2.2.2.1) (cup hb12 (HS11.out).2.2.2.2.2.2.2.2.2.2.2.2.2)))))))))))))); clear hb12)
      | (go_at_call 22; have q := HD9; clear q; refine (rawIs_same _ ev3 _ (tell opRow (cellErr k p L C Q i)) _ R (HENV.out.up HD9.out) (HE6.out.up HD9.out) (HT6.out.up HD9.out)).mono ?_; rintro e w10 ⟨rfl, hb10⟩; have HD10 := Lib.hid (bstep HD9.out hb10); have HS10 := Lib.hid (And.intro (cup hb10 (HS9.out).1) (And.intro (cup hb10 (HS9.out).2.1) (And.intro (cup hb10 (HS9.out).2.2.1) (And.intro (cup hb10 (HS9.out).2.2.2.1) (And.intro (cup hb10 (HS9.out).2.2.2.2.1) (And.intro (cup hb10 (HS9.out).2.2.2.2.2.1) (And.intro (cup hb10 (HS9.out).2.2.2.2.2.2.1) (And.intro (cup hb10 (HS9.out).2.2.2.2.2.2.2.1) (And.intro (cup hb10 (HS9.out).2.2.2.2.2.2.2.2.1) (And.intro (cup hb10 (HS9.out).2.2.2.2.2.2.2.2.2.1) (And.intro (cup hb10 (HS9.out).2.2.2.2.2.2.2.2.2.2.1) (And.intro (cup hb10 (HS9.out).2.2.2.2.2.2.2.2.2.2.2.1) (And.intro (cup hb10 (HS9.out).2.2.2.2.2.2.2.2.2.2.2.2.1) (cup hb10 (HS9.out).2.2.2.2.2.2.2.2.2.2.2.2.2)))))))))))))); clear hb10)
      | (go_at_call 22; refine (rawIs_same _ ev7 _ (tell opRow (rowErr k p L C Q)) _ R (HENV.out.up HD8.out) HE8.out HW8.out).mono ?_; rintro e w9 ⟨rfl, hb9⟩; have HD9 := Lib.hid (bstep HD8.out hb9); have HS9 := Lib.hid (And.intro (cup hb9 (HS8.out).1) (And.intro (cup hb9 (HS8.out).2.1) (And.intro (cup hb9 (HS8.out).2.2.1) (And.intro (cup hb9 (HS8.out).2.2.2.1) (And.intro (cup hb9 (HS8.out).2.2.2.2.1) (And.intro (cup hb9 (HS8.out).2.2.2.2.2.1) (And.intro (cup hb9 (HS8.out).2.2.2.2.2.2.1) (And.intro (cup hb9 (HS8.out).2.2.2.2.2.2.2.1) (And.intro (cup hb9 (HS8.out).2.2.2.2.2.2.2.2.1) (And.intro (cup hb9 (HS8.out).2.2.2.2.2.2.2.2.2.1) (And.intro (cup hb9 (HS8.out).2.2.2.2.2.2.2.2.2.2.1) (And.intro (cup hb9 (HS8.out).2.2.2.2.2.2.2.2.2.2.2.1) (And.intro (cup hb9 (HS8.out).2.2.2.2.2.2.2.2.2.2.2.2.1) (cup hb9 (HS8.out).2.2.2.2.2.2.2.2.2.2.2.2.2)))))))))))))); clear hb9)
      | (go_at_call 13; refine (ints_eqB a5 a6 n5 n6 c5 c6 _ _ (HV6.out.up HD10.out) (HK6.out.up HD10.out) cutV_len).mono ?_; rintro e w11 ⟨rfl, hb11⟩; have HD11 := Lib.hid (bstep HD10.out hb11); have HS11 := Lib.hid (And.intro (cup hb11 (HS10.out).1) (And.intro (cup hb11 (HS10.out).2.1) (And.intro (cup hb11 (HS10.out).2.2.1) (And.intro (cup hb11 (HS10.out).2.2.2.1) (And.intro (cup hb11 (HS10.out).2.2.2.2.1) (And.intro (cup hb11 (HS10.out).2.2.2.2.2.1) (And.intro (cup hb11 (HS10.out).2.2.2.2.2.2.1) (And.intro (cup hb11 (HS10.out).2.2.2.2.2.2.2.1) (And.intro (cup hb11 (HS10.out).2.2.2.2.2.2.2.2.1) (And.intro (cup hb11 (HS10.out).2.2.2.2.2.2.2.2.2.1) (And.intro (cup hb11 (HS10.out).2.2.2.2.2.2.2.2.2.2.1) (And.intro (cup hb11 (HS10.out).2.2.2.2.2.2.2.2.2.2.2.1) (And.intro (cup hb11 (HS10.out).2.2.2.2.2.2.2.2.2.2.2.2.1) (cup hb11 (HS10.out).2.2.2.2.2.2.2.2.2.2.2.2.2)))))))))))))); clear hb11)
      | (go_at_call 16; refine (kept7 p aL aC aR nL cL nC cC nR cR gL gC gR L C Q _ (HM6.out.up HD12.out) (HLL6.out.up HD12.out) (HLC6.out.up HD12.out) (HLR6.out.up HD12.out)).mono ?_; rintro e w13 ⟨rfl, hb13⟩; have HD13 := Lib.hid (bstep HD12.out hb13); have HS13 := Lib.hid (And.intro (cup hb13 (HS12.out).1) (And.intro (cup hb13 (HS12.out).2.1) (And.intro (cup hb13 (HS12.out).2.2.1) (And.intro (cup hb13 (HS12.out).2.2.2.1) (And.intro (cup hb13 (HS12.out).2.2.2.2.1) (And.intro (cup hb13 (HS12.out).2.2.2.2.2.1) (And.intro (cup hb13 (HS12.out).2.2.2.2.2.2.1) (And.intro (cup hb13 (HS12.out).2.2.2.2.2.2.2.1) (And.intro (cup hb13 (HS12.out).2.2.2.2.2.2.2.2.1) (And.intro (cup hb13 (HS12.out).2.2.2.2.2.2.2.2.2.1) (And.intro (cup hb13 (HS12.out).2.2.2.2.2.2.2.2.2.2.1) (And.intro (cup hb13 (HS12.out).2.2.2.2.2.2.2.2.2.2.2.1) (And.intro (cup hb13 (HS12.out).2.2.2.2.2.2.2.2.2.2.2.2.1) (cup hb13 (HS12.out).2.2.2.2.2.2.2.2.2.2.2.2.2)))))))))))))); clear hb13)
      | (go_at_call 26; refine (rowcheck_e k p (some ⟨gL, 0, none⟩) (some ⟨gC, 0, none⟩) (some ⟨gR, 0, none⟩) nL (nL + 2) nC (nC + 2) nR (nR + 2) L C Q _ R HENV.out.sent.glob HMM6.out).mono ?_; rintro e w7 ⟨ev7, rfl, he7, hb7⟩; have HD7 := Lib.hid hb7; have HE7 := Lib.hid he7; clear he7; have HS7 := Lib.hid (And.intro (cup hb7 (HS0.out).1) (And.intro (cup hb7 (HS0.out).2.1) (And.intro (cup hb7 (HS0.out).2.2.1) (And.intro (cup hb7 (HS0.out).2.2.2.1) (And.intro (cup hb7 (HS0.out).2.2.2.2.1) (And.intro (cup hb7 (HS0.out).2.2.2.2.2.1) (And.intro (cup hb7 (HS0.out).2.2.2.2.2.2.1) (And.intro (cup hb7 (HS0.out).2.2.2.2.2.2.2.1) (And.intro (cup hb7 (HS0.out).2.2.2.2.2.2.2.2.1) (And.intro (cup hb7 (HS0.out).2.2.2.2.2.2.2.2.2.1) (And.intro (cup hb7 (HS0.out).2.2.2.2.2.2.2.2.2.2.1) (And.intro (cup hb7 (HS0.out).2.2.2.2.2.2.2.2.2.2.2.1) (And.intro (cup hb7 (HS0.out).2.2.2.2.2.2.2.2.2.2.2.2.1) (cup hb7 (HS0.out).2.2.2.2.2.2.2.2.2.2.2.2.2)))))))))))))); clear hb7)
      | (go_at_call 27; refine (refcheck_e k p aL aC aR nL cL nC cC nR cR L C Q _ (HM6.out.up HD7.out)).mono ?_; rintro e w8 ⟨N8, a81, n81, c81, a82, n82, c82, rfl, hw8, hb8⟩; have HD8 := Lib.hid (bstep HD7.out hb8); have HW8 := Lib.hid hw8; have HE8 := Lib.hid (HE7.out.up hb8); clear hw8; have HS8 := Lib.hid (And.intro (cup hb8 (HS7.out).1) (And.intro (cup hb8 (HS7.out).2.1) (And.intro (cup hb8 (HS7.out).2.2.1) (And.intro (cup hb8 (HS7.out).2.2.2.1) (And.intro (cup hb8 (HS7.out).2.2.2.2.1) (And.intro (cup hb8 (HS7.out).2.2.2.2.2.1) (And.intro (cup hb8 (HS7.out).2.2.2.2.2.2.1) (And.intro (cup hb8 (HS7.out).2.2.2.2.2.2.2.1) (And.intro (cup hb8 (HS7.out).2.2.2.2.2.2.2.2.1) (And.intro (cup hb8 (HS7.out).2.2.2.2.2.2.2.2.2.1) (And.intro (cup hb8 (HS7.out).2.2.2.2.2.2.2.2.2.2.1) (And.intro (cup hb8 (HS7.out).2.2.2.2.2.2.2.2.2.2.2.1) (And.intro (cup hb8 (HS7.out).2.2.2.2.2.2.2.2.2.2.2.2.1) (cup hb8 (HS7.out).2.2.2.2.2.2.2.2.2.2.2.2.2)))))))))))))); clear hb8))
  go_wp2
  go_ret
  exact ⟨rfl, bstep HB6.out HD13.out⟩
end Go.Proofs.YtkgalgmjdfhhbaaDoor
