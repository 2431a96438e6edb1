/- The contract of row.Step where it refuses. -/
import Derived.Test.YtkgalgmjdfhhbaaDoorRowD
namespace Go.Proofs.YtkgalgmjdfhhbaaDoor
open Go.RowKit
set_option linter.unusedVariables false
set_option maxRecDepth 100000

/-- no row, and an error -/
def ErrRow (W : World) (e : Ending) (w' : World) : Prop := ∃ g, e = .returned (.tuple #[rowV 0 none 0 0 none 0 0 none 0 0, .iface 77 (.pointer (some ⟨g, 0, none⟩))]) ∧ Below W.heap.size W w'

set_option maxHeartbeats 8000000 in
theorem rowstep_err (k r : Int) (aT : Option Addr) (nT cT : Nat) (tb : List Int) (p : Int) (aL aC aR : Option Addr) (nL cL nC cC nR cR : Nat) (L C Q : List Int) (W : World) (R : Nat → Addr) (hG : Glob W R) (hT : RK .i64 W aT nT tb) (hm : nT ≤ maxLen)
    (hM : RowM W aL nL cL L aC nC cC C aR nR cR Q) (h : ∀ kn rn : Nat, k = kn → r = rn → IsRule kn rn tb → IsRow kn p L C Q → ¬ (-4096 ≤ p - r ∧ nC + 2 * rn ≤ 16384)) :
    Calls Tryd.prog 10 #[ruleV k r aT nT cT, rowV p aL nL cL aC nC cC aR nR cR] W (ErrRow W) := by
  have mC := hM.c.n8
  obtain ⟨Wb, hWb⟩ : ∃ Wb, ((W.alloc (.cells #[.int .i64 k, .int .i64 r, .slice aT nT cT] 24)).alloc (.cells #[.int .i64 p, .slice aL nL cL, .slice aC nC cC, .slice aR nR cR] 26)).alloc (.cells #[.int .i64 0, .slice none 0 0, .slice none 0 0, .slice none 0 0] 26) = Wb := ⟨_, rfl⟩
  have HX : Hid (Wb.cell? ⟨W.heap.size, 0, none⟩ = some (.int .i64 k) ∧ Wb.cell? ⟨W.heap.size, 1, none⟩ = some (.int .i64 r) ∧ Wb.cell? ⟨W.heap.size, 2, none⟩ = some (.slice aT nT cT)) := by rw [← hWb]; exact ⟨cell_al _ (cell_al _ (by simp)), cell_al _ (cell_al _ (by simp)), cell_al _ (cell_al _ (by simp))⟩
  have HY : Hid (Wb.cell? ⟨W.heap.size + 1, 0, none⟩ = some (.int .i64 p) ∧ Wb.cell? ⟨W.heap.size + 1, 1, none⟩ = some (.slice aL nL cL) ∧ Wb.cell? ⟨W.heap.size + 1, 2, none⟩ = some (.slice aC nC cC) ∧ Wb.cell? ⟨W.heap.size + 1, 3, none⟩ = some (.slice aR nR cR)) := by rw [← hWb]; exact ⟨cell_al _ (by simp), cell_al _ (by simp), cell_al _ (by simp), cell_al _ (by simp)⟩
  have HZ : Hid (Wb.heap[W.heap.size + 1 + 1]? = some (.cells #[.int .i64 0, .slice none 0 0, .slice none 0 0, .slice none 0 0] 26)) := by
    show _ = _
    rw [← hWb]
    have := heap_alloc_new ((W.alloc (.cells #[.int .i64 k, .int .i64 r, .slice aT nT cT] 24)).alloc (.cells #[.int .i64 p, .slice aL nL cL, .slice aC nC cC, .slice aR nR cR] 26)) (.cells #[.int .i64 0, .slice none 0 0, .slice none 0 0, .slice none 0 0] 26)
    simpa using this
  have HSZ : Hid (Wb.heap.size = W.heap.size + 3) := by show _ = _; rw [← hWb]; simp
  have HS0 : Hid (W.heap.size < Wb.heap.size) := by show _ < _; have := HSZ.out; omega
  have HS1 : Hid (W.heap.size + 1 < Wb.heap.size) := by show _ < _; have := HSZ.out; omega
  have HBX : Hid (Below W.heap.size W Wb) := by rw [← hWb]; exact balloc (balloc (balloc (bnil W) _) _) _
  have HH := Lib.hid h; clear h
  have HT := Lib.hid hT; clear hT
  have HM := Lib.hid hM; clear hM
  have HG := Lib.hid hG; clear hG
  have HWB := Lib.hid hWb; clear hWb
  cases he : ruleErr k r tb with
  | some at_ =>
    have HE := Lib.hid he; clear he
    go_enter Tryd.func10, Tryd.ntmps10
    go_wp2_with fail
    rw [HWB.out]
    refine (rcheck_err k r aT nT cT tb _ R (HG.out.up HBX.out) (HT.out.up HBX.out) hm at_ HE.out).mono ?_; rintro e w1 ⟨g1, rfl, he1, hb1⟩
    have HC1 := Lib.hid hb1
    clear he1 hb1
    go_wp2_with fail
    refine (undr_some _ _ _ _ _).mono ?_; rintro e w2 ⟨rfl, rfl⟩
    have HE7 := Lib.hid (HC1.out.alloc HC1.out.size (faultObj ⟨#[114, 111, 119]⟩ 0 (.iface 77 (.pointer (some ⟨g1, 0, none⟩)))))
    have hz7 := (HE7.out.block (W.heap.size + 1 + 1) (by have := HSZ.out; omega)).trans HZ.out
    have HZ7 := Lib.hid hz7
    obtain ⟨wz, hwz⟩ : ∃ wz, (w1.alloc (faultObj ⟨#[114, 111, 119]⟩ 0 (.iface 77 (.pointer (some ⟨g1, 0, none⟩))))) = wz := ⟨_, rfl⟩
    have z0 : (w1.alloc (faultObj ⟨#[114, 111, 119]⟩ 0 (.iface 77 (.pointer (some ⟨g1, 0, none⟩))))).cell? ⟨W.heap.size + 1 + 1, 0, none⟩ = some (.int .i64 0) := by simp only [World.cell?, hz7]; rfl
    have z1 : (w1.alloc (faultObj ⟨#[114, 111, 119]⟩ 0 (.iface 77 (.pointer (some ⟨g1, 0, none⟩))))).cell? ⟨W.heap.size + 1 + 1, 1, none⟩ = some (.slice none 0 0) := by simp only [World.cell?, hz7]; rfl
    have z2 : (w1.alloc (faultObj ⟨#[114, 111, 119]⟩ 0 (.iface 77 (.pointer (some ⟨g1, 0, none⟩))))).cell? ⟨W.heap.size + 1 + 1, 2, none⟩ = some (.slice none 0 0) := by simp only [World.cell?, hz7]; rfl
    have z3 : (w1.alloc (faultObj ⟨#[114, 111, 119]⟩ 0 (.iface 77 (.pointer (some ⟨g1, 0, none⟩))))).cell? ⟨W.heap.size + 1 + 1, 3, none⟩ = some (.slice none 0 0) := by simp only [World.cell?, hz7]; rfl
    have f0 : (w1.alloc (faultObj ⟨#[114, 111, 119]⟩ 0 (.iface 77 (.pointer (some ⟨g1, 0, none⟩))))).frozen? ⟨W.heap.size + 1 + 1, 0, none⟩ = false := by simp only [World.frozen?, hz7]; rfl
    have f1 : (w1.alloc (faultObj ⟨#[114, 111, 119]⟩ 0 (.iface 77 (.pointer (some ⟨g1, 0, none⟩))))).frozen? ⟨W.heap.size + 1 + 1, 1, none⟩ = false := by simp only [World.frozen?, hz7]; rfl
    have f2 : (w1.alloc (faultObj ⟨#[114, 111, 119]⟩ 0 (.iface 77 (.pointer (some ⟨g1, 0, none⟩))))).frozen? ⟨W.heap.size + 1 + 1, 2, none⟩ = false := by simp only [World.frozen?, hz7]; rfl
    have f3 : (w1.alloc (faultObj ⟨#[114, 111, 119]⟩ 0 (.iface 77 (.pointer (some ⟨g1, 0, none⟩))))).frozen? ⟨W.heap.size + 1 + 1, 3, none⟩ = false := by simp only [World.frozen?, hz7]; rfl
    rw [hwz] at z0 z1 z2 z3 f0 f1 f2 f3 HZ7 HE7
    rw [hwz]
    clear hz7 hwz
    go_wp2
    obtain ⟨w8, e8, ⟨r0, r1, r2', r3'⟩, hk8, hs8, hbl8⟩ := set4 HZ7.out (.int .i64 0) (.slice none 0 0) (.slice none 0 0) (.slice none 0 0)
    rw [e8]
    refine bodyPost_ret (v := .tuple #[rowV 0 none 0 0 none 0 0 none 0 0, .iface 77 (.pointer (some ⟨w1.heap.size, 0, none⟩))]) (by simp [results, Tryd.results10, go_sem, r0, r1, r2', r3']) rfl ?_
    exact ⟨_, rfl, hbl8 _ _ (by omega) (HBX.out.trans (HE7.out.mono HBX.out.size))⟩
  | none =>
    obtain ⟨kn, rn, rfl, rfl, hI⟩ := ruleErr_none he
    have r3 := hI.r3
    have HI := Lib.hid hI; clear hI he
    cases hx : rowErr (kn : Int) p L C Q with
    | some x =>
      have HE := Lib.hid hx; clear hx
      go_enter Tryd.func10, Tryd.ntmps10
      go_wp2_with fail
      rw [HWB.out]
      refine (rcheck_ok kn rn aT nT cT tb _ (HT.out.up HBX.out) HI.out).mono ?_; rintro e w1 ⟨rfl, hb1⟩
      have x0 := (hb1.cell (p := ⟨W.heap.size, 0, none⟩) HS0.out).trans HX.out.1
      have y0 := (hb1.cell (p := ⟨W.heap.size + 1, 0, none⟩) HS1.out).trans HY.out.1
      have y1 := (hb1.cell (p := ⟨W.heap.size + 1, 1, none⟩) HS1.out).trans HY.out.2.1
      have y2 := (hb1.cell (p := ⟨W.heap.size + 1, 2, none⟩) HS1.out).trans HY.out.2.2.1
      have y3 := (hb1.cell (p := ⟨W.heap.size + 1, 3, none⟩) HS1.out).trans HY.out.2.2.2
      have HC1 := Lib.hid hb1
      have HB1 := Lib.hid (HBX.out.trans (hb1.mono HBX.out.size))
      clear hb1
      go_wp2_with fail
      refine (rowcheck_err kn p aL aC aR nL cL nC cC nR cR L C Q _ R (HG.out.up HB1.out) (HM.out.up HB1.out) x HE.out).mono ?_; rintro e w2 ⟨g2, rfl, he2, hb2⟩
      have HC2 := Lib.hid (HC1.out.trans (hb2.mono HC1.out.size))
      clear hb2 he2 x0 y0 y1 y2 y3
      have HE7 := Lib.hid HC2.out
      have hz7 := (HE7.out.block (W.heap.size + 1 + 1) (by have := HSZ.out; omega)).trans HZ.out
      have HZ7 := Lib.hid hz7
      obtain ⟨wz, hwz⟩ : ∃ wz, w2 = wz := ⟨_, rfl⟩
      have z0 : w2.cell? ⟨W.heap.size + 1 + 1, 0, none⟩ = some (.int .i64 0) := by simp only [World.cell?, hz7]; rfl
      have z1 : w2.cell? ⟨W.heap.size + 1 + 1, 1, none⟩ = some (.slice none 0 0) := by simp only [World.cell?, hz7]; rfl
      have z2 : w2.cell? ⟨W.heap.size + 1 + 1, 2, none⟩ = some (.slice none 0 0) := by simp only [World.cell?, hz7]; rfl
      have z3 : w2.cell? ⟨W.heap.size + 1 + 1, 3, none⟩ = some (.slice none 0 0) := by simp only [World.cell?, hz7]; rfl
      have f0 : w2.frozen? ⟨W.heap.size + 1 + 1, 0, none⟩ = false := by simp only [World.frozen?, hz7]; rfl
      have f1 : w2.frozen? ⟨W.heap.size + 1 + 1, 1, none⟩ = false := by simp only [World.frozen?, hz7]; rfl
      have f2 : w2.frozen? ⟨W.heap.size + 1 + 1, 2, none⟩ = false := by simp only [World.frozen?, hz7]; rfl
      have f3 : w2.frozen? ⟨W.heap.size + 1 + 1, 3, none⟩ = false := by simp only [World.frozen?, hz7]; rfl
      rw [hwz] at z0 z1 z2 z3 f0 f1 f2 f3 HZ7 HE7
      rw [hwz]
      clear hz7 hwz
      go_wp2
      obtain ⟨w8, e8, ⟨r0, r1, r2', r3'⟩, hk8, hs8, hbl8⟩ := set4 HZ7.out (.int .i64 0) (.slice none 0 0) (.slice none 0 0) (.slice none 0 0)
      rw [e8]
      refine bodyPost_ret (v := .tuple #[rowV 0 none 0 0 none 0 0 none 0 0, .iface 77 (.pointer (some ⟨g2, 0, none⟩))]) (by simp [results, Tryd.results10, go_sem, r0, r1, r2', r3']) rfl ?_
      exact ⟨_, rfl, hbl8 _ _ (by omega) (HBX.out.trans (HE7.out.mono HBX.out.size))⟩
    | none =>
      obtain ⟨k', hk', hW⟩ := rowErr_none hx
      obtain rfl : kn = k' := by omega
      have hno := HH.out kn rn rfl rfl HI.out hW
      have hp1 := hW.p1
      have hp2 := hW.p2
      have HW := Lib.hid hW; clear hW hx hk' HH
      go_enter Tryd.func10, Tryd.ntmps10
      go_wp2_with fail
      rw [HWB.out]
      refine (rcheck_ok kn rn aT nT cT tb _ (HT.out.up HBX.out) HI.out).mono ?_; rintro e w1 ⟨rfl, hb1⟩
      have x0 := (hb1.cell (p := ⟨W.heap.size, 0, none⟩) HS0.out).trans HX.out.1
      have y0 := (hb1.cell (p := ⟨W.heap.size + 1, 0, none⟩) HS1.out).trans HY.out.1
      have y1 := (hb1.cell (p := ⟨W.heap.size + 1, 1, none⟩) HS1.out).trans HY.out.2.1
      have y2 := (hb1.cell (p := ⟨W.heap.size + 1, 2, none⟩) HS1.out).trans HY.out.2.2.1
      have y3 := (hb1.cell (p := ⟨W.heap.size + 1, 3, none⟩) HS1.out).trans HY.out.2.2.2
      have HC1 := Lib.hid hb1
      have HB1 := Lib.hid (HBX.out.trans (hb1.mono HBX.out.size))
      clear hb1
      go_wp2_with fail
      refine (rowcheck_ok kn p aL aC aR nL cL nC cC nR cR L C Q _ R (HG.out.up HB1.out) (HM.out.up HB1.out) HW.out).mono ?_; rintro e w2 ⟨rfl, hb2⟩
      have HC2 := Lib.hid (HC1.out.trans (hb2.mono HC1.out.size))
      clear hb2 x0 y0 y1 y2 y3
      have x0 := (HC2.out.cell (p := ⟨W.heap.size, 0, none⟩) HS0.out).trans HX.out.1
      have x1 := (HC2.out.cell (p := ⟨W.heap.size, 1, none⟩) HS0.out).trans HX.out.2.1
      have x2 := (HC2.out.cell (p := ⟨W.heap.size, 2, none⟩) HS0.out).trans HX.out.2.2
      have y0 := (HC2.out.cell (p := ⟨W.heap.size + 1, 0, none⟩) HS1.out).trans HY.out.1
      have y1 := (HC2.out.cell (p := ⟨W.heap.size + 1, 1, none⟩) HS1.out).trans HY.out.2.1
      have y2 := (HC2.out.cell (p := ⟨W.heap.size + 1, 2, none⟩) HS1.out).trans HY.out.2.2.1
      have y3 := (HC2.out.cell (p := ⟨W.heap.size + 1, 3, none⟩) HS1.out).trans HY.out.2.2.2
      by_cases hat : p - (rn : Int) < -4096
      · skip
        have hat2 : p - (rn : Int) < -4096 := hat
        go_wp2_with fail
        go_quiet (fail)
        obtain ⟨w3, hw3⟩ : ∃ w3, w2.drewN nq = w3 := ⟨_, rfl⟩
        have hb3 : Below Wb.heap.size Wb w3 := by rw [← hw3]; exact below_drewN HC2.out nq
        rw [hw3]
        have HC3 := Lib.hid hb3
        have HB3 := Lib.hid (HBX.out.trans (hb3.mono HBX.out.size))
        clear hw3 hb3 x0 x1 x2 y0 y1 y2 y3
        go_wp2_with fail
        refine (row_wrong _ _ _ R (HG.out.up HB3.out) (by rfl)).mono ?_; rintro e w' ⟨rfl, rfl⟩
        have HE7 := Lib.hid (HC3.out.alloc HC3.out.size (faultObj opRow 1 (.iface 123 (.pointer (some (R (rix 3)))))))
        have hz7 := (HE7.out.block (W.heap.size + 1 + 1) (by have := HSZ.out; omega)).trans HZ.out
        have HZ7 := Lib.hid hz7
        obtain ⟨wz, hwz⟩ : ∃ wz, (w3.alloc (faultObj opRow 1 (.iface 123 (.pointer (some (R (rix 3))))))) = wz := ⟨_, rfl⟩
        have z0 : (w3.alloc (faultObj opRow 1 (.iface 123 (.pointer (some (R (rix 3))))))).cell? ⟨W.heap.size + 1 + 1, 0, none⟩ = some (.int .i64 0) := by simp only [World.cell?, hz7]; rfl
        have z1 : (w3.alloc (faultObj opRow 1 (.iface 123 (.pointer (some (R (rix 3))))))).cell? ⟨W.heap.size + 1 + 1, 1, none⟩ = some (.slice none 0 0) := by simp only [World.cell?, hz7]; rfl
        have z2 : (w3.alloc (faultObj opRow 1 (.iface 123 (.pointer (some (R (rix 3))))))).cell? ⟨W.heap.size + 1 + 1, 2, none⟩ = some (.slice none 0 0) := by simp only [World.cell?, hz7]; rfl
        have z3 : (w3.alloc (faultObj opRow 1 (.iface 123 (.pointer (some (R (rix 3))))))).cell? ⟨W.heap.size + 1 + 1, 3, none⟩ = some (.slice none 0 0) := by simp only [World.cell?, hz7]; rfl
        have f0 : (w3.alloc (faultObj opRow 1 (.iface 123 (.pointer (some (R (rix 3))))))).frozen? ⟨W.heap.size + 1 + 1, 0, none⟩ = false := by simp only [World.frozen?, hz7]; rfl
        have f1 : (w3.alloc (faultObj opRow 1 (.iface 123 (.pointer (some (R (rix 3))))))).frozen? ⟨W.heap.size + 1 + 1, 1, none⟩ = false := by simp only [World.frozen?, hz7]; rfl
        have f2 : (w3.alloc (faultObj opRow 1 (.iface 123 (.pointer (some (R (rix 3))))))).frozen? ⟨W.heap.size + 1 + 1, 2, none⟩ = false := by simp only [World.frozen?, hz7]; rfl
        have f3 : (w3.alloc (faultObj opRow 1 (.iface 123 (.pointer (some (R (rix 3))))))).frozen? ⟨W.heap.size + 1 + 1, 3, none⟩ = false := by simp only [World.frozen?, hz7]; rfl
        rw [hwz] at z0 z1 z2 z3 f0 f1 f2 f3 HZ7 HE7
        rw [hwz]
        clear hz7 hwz
        go_wp2
        obtain ⟨w8, e8, ⟨r0, r1, r2', r3'⟩, hk8, hs8, hbl8⟩ := set4 HZ7.out (.int .i64 0) (.slice none 0 0) (.slice none 0 0) (.slice none 0 0)
        rw [e8]
        refine bodyPost_ret (v := .tuple #[rowV 0 none 0 0 none 0 0 none 0 0, .iface 77 (.pointer (some ⟨w3.heap.size, 0, none⟩))]) (by simp [results, Tryd.results10, go_sem, r0, r1, r2', r3']) rfl ?_
        exact ⟨_, rfl, hbl8 _ _ (by omega) (HBX.out.trans (HE7.out.mono HBX.out.size))⟩
      · skip
        have hbg : (16384 : Int) < (nC : Int) + 2 * (rn : Int) := by omega
        go_wp2_with fail
        go_quiet (fail)
        obtain ⟨w3, hw3⟩ : ∃ w3, w2.drewN nq = w3 := ⟨_, rfl⟩
        have hb3 : Below Wb.heap.size Wb w3 := by rw [← hw3]; exact below_drewN HC2.out nq
        rw [hw3]
        have HC3 := Lib.hid hb3
        have HB3 := Lib.hid (HBX.out.trans (hb3.mono HBX.out.size))
        clear hw3 hb3 x0 x1 x2 y0 y1 y2 y3
        go_wp2_with fail
        refine (row_wrong _ _ _ R (HG.out.up HB3.out) (by rfl)).mono ?_; rintro e w' ⟨rfl, rfl⟩
        have HE7 := Lib.hid (HC3.out.alloc HC3.out.size (faultObj opRow 4 (.iface 123 (.pointer (some (R (rix 4)))))))
        have hz7 := (HE7.out.block (W.heap.size + 1 + 1) (by have := HSZ.out; omega)).trans HZ.out
        have HZ7 := Lib.hid hz7
        obtain ⟨wz, hwz⟩ : ∃ wz, (w3.alloc (faultObj opRow 4 (.iface 123 (.pointer (some (R (rix 4))))))) = wz := ⟨_, rfl⟩
        have z0 : (w3.alloc (faultObj opRow 4 (.iface 123 (.pointer (some (R (rix 4))))))).cell? ⟨W.heap.size + 1 + 1, 0, none⟩ = some (.int .i64 0) := by simp only [World.cell?, hz7]; rfl
        have z1 : (w3.alloc (faultObj opRow 4 (.iface 123 (.pointer (some (R (rix 4))))))).cell? ⟨W.heap.size + 1 + 1, 1, none⟩ = some (.slice none 0 0) := by simp only [World.cell?, hz7]; rfl
        have z2 : (w3.alloc (faultObj opRow 4 (.iface 123 (.pointer (some (R (rix 4))))))).cell? ⟨W.heap.size + 1 + 1, 2, none⟩ = some (.slice none 0 0) := by simp only [World.cell?, hz7]; rfl
        have z3 : (w3.alloc (faultObj opRow 4 (.iface 123 (.pointer (some (R (rix 4))))))).cell? ⟨W.heap.size + 1 + 1, 3, none⟩ = some (.slice none 0 0) := by simp only [World.cell?, hz7]; rfl
        have f0 : (w3.alloc (faultObj opRow 4 (.iface 123 (.pointer (some (R (rix 4))))))).frozen? ⟨W.heap.size + 1 + 1, 0, none⟩ = false := by simp only [World.frozen?, hz7]; rfl
        have f1 : (w3.alloc (faultObj opRow 4 (.iface 123 (.pointer (some (R (rix 4))))))).frozen? ⟨W.heap.size + 1 + 1, 1, none⟩ = false := by simp only [World.frozen?, hz7]; rfl
        have f2 : (w3.alloc (faultObj opRow 4 (.iface 123 (.pointer (some (R (rix 4))))))).frozen? ⟨W.heap.size + 1 + 1, 2, none⟩ = false := by simp only [World.frozen?, hz7]; rfl
        have f3 : (w3.alloc (faultObj opRow 4 (.iface 123 (.pointer (some (R (rix 4))))))).frozen? ⟨W.heap.size + 1 + 1, 3, none⟩ = false := by simp only [World.frozen?, hz7]; rfl
        rw [hwz] at z0 z1 z2 z3 f0 f1 f2 f3 HZ7 HE7
        rw [hwz]
        clear hz7 hwz
        go_wp2
        obtain ⟨w8, e8, ⟨r0, r1, r2', r3'⟩, hk8, hs8, hbl8⟩ := set4 HZ7.out (.int .i64 0) (.slice none 0 0) (.slice none 0 0) (.slice none 0 0)
        rw [e8]
        refine bodyPost_ret (v := .tuple #[rowV 0 none 0 0 none 0 0 none 0 0, .iface 77 (.pointer (some ⟨w3.heap.size, 0, none⟩))]) (by simp [results, Tryd.results10, go_sem, r0, r1, r2', r3']) rfl ?_
        exact ⟨_, rfl, hbl8 _ _ (by omega) (HBX.out.trans (HE7.out.mono HBX.out.size))⟩
end Go.Proofs.YtkgalgmjdfhhbaaDoor
