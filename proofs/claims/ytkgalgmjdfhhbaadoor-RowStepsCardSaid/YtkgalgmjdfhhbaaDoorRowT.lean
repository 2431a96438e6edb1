/- The contract of row.Step where it refuses, with its error. -/
import Derived.Test.YtkgalgmjdfhhbaaDoorRowD
import Derived.Test.YtkgalgmjdfhhbaaDoorErrG
namespace Go.Proofs.YtkgalgmjdfhhbaaDoor
open Go.RowKit
set_option linter.unusedVariables false
set_option maxRecDepth 100000

theorem Chain.oth {w w6 : World} {g : Nat} (hk : ∀ k, k ≠ g → w6.heap[k]? = w.heap[k]?) (hz : ∀ o i x, w.heap[g]? ≠ some (faultObj o i x)) : ∀ {l : List (ByteArray × Int)} {v : Value} {a : Addr}, a.block ≠ g → Chain w v l a → Chain w6 v l a
  | [], v, a, ha, h => by
    obtain ⟨h1, c, t, h2⟩ := h
    exact ⟨h1, c, t, by rw [hk _ ha]; exact h2⟩
  | y :: r, v, a, ha, h => by
    obtain ⟨b, x, h1, h2, h3⟩ := h
    have hb : b ≠ g := fun e => hz _ _ _ (e ▸ h2)
    exact ⟨b, x, h1, by rw [hk b hb]; exact h2, Chain.oth hk hz ha h3⟩
theorem EC.oth {R : Nat → Addr} {W w w6 : World} {g : Nat} {v : Value} {f : ErrD} {cs : Array Value} {t : TypeId} (h : EC R w v f) (hS : Sent W R) (hk : ∀ k, k ≠ g → w6.heap[k]? = w.heap[k]?) (hz : w.heap[g]? = some (.cells cs t)) (hc : cs.size ≠ 3) (hg : W.heap.size ≤ g) : EC R w6 v f := by
  cases f with
  | none => exact h
  | some x =>
    refine Chain.oth hk (fun o i x e => ?_) ?_ h
    · rw [hz] at e
      simp only [faultObj, Option.some.injEq, Obj.cells.injEq] at e
      exact hc (by rw [e.1]; rfl)
    · obtain ⟨c, t, e⟩ := hS.row (rix x.2) (rix_lt _)
      have := (Array.getElem?_eq_some_iff.1 e).1
      omega
/-- the fault of row.Step -/
def rstepD (k r : Int) (tb : List Int) (p : Int) (L C Q : List Int) : ErrD :=
  match ruleErr k r tb with
  | some a => some ([(opRow, 0), (opRule, a)], 1)
  | none => match rowErr k p L C Q with
    | some x => some ([(opRow, x.1)], x.2)
    | none => if p - r < -4096 then some ([(opRow, 1)], 3) else if 16384 < (C.length : Int) + 2 * r then some ([(opRow, 4)], 4) else none
/-- no row, and an error -/
def ErrRowE (R : Nat → Addr) (x : ErrD) (W : World) (e : Ending) (w' : World) : Prop := ∃ ev, e = .returned (.tuple #[rowV 0 none 0 0 none 0 0 none 0 0, ev]) ∧ EC R w' ev x ∧ Below W.heap.size W w'

set_option maxHeartbeats 8000000 in
theorem rowstep_errE (k r : Int) (aT : Option Addr) (nT cT : Nat) (tb : List Int) (p : Int) (aL aC aR : Option Addr) (nL cL nC cC nR cR : Nat) (L C Q : List Int) (W : World) (R : Nat → Addr) (hS : Sent W R) (hT : RK .i64 W aT nT tb) (hm : nT ≤ maxLen)
    (hM : RowM W aL nL cL L aC nC cC C aR nR cR Q) (h : rstepD k r tb p L C Q ≠ none) :
    Calls Tryd.prog 10 #[ruleV k r aT nT cT, rowV p aL nL cL aC nC cC aR nR cR] W (ErrRowE R (rstepD k r tb p L C Q) W) := by
  have hG := hS.glob
  have HSN := Lib.hid hS; clear hS
  have mC := hM.c.n8
  obtain ⟨Wb, hWb⟩ : ∃ Wb, ((W.alloc (.cells #[.int .i64 k, .int .i64 r, .slice aT nT cT] 24)).alloc (.cells #[.int .i64 p, .slice aL nL cL, .slice aC nC cC, .slice aR nR cR] 26)).alloc (.cells #[.int .i64 0, .slice none 0 0, .slice none 0 0, .slice none 0 0] 26) = Wb := ⟨_, rfl⟩
  have HX : Hid (Wb.cell? ⟨W.heap.size, 0, none⟩ = some (.int .i64 k) ∧ Wb.cell? ⟨W.heap.size, 1, none⟩ = some (.int .i64 r) ∧ Wb.cell? ⟨W.heap.size, 2, none⟩ = some (.slice aT nT cT)) := by rw [← hWb]; exact ⟨cell_al _ (cell_al _ (by simp)), cell_al _ (cell_al _ (by simp)), cell_al _ (cell_al _ (by simp))⟩
  have HY : Hid (Wb.cell? ⟨W.heap.size + 1, 0, none⟩ = some (.int .i64 p) ∧ Wb.cell? ⟨W.heap.size + 1, 1, none⟩ = some (.slice aL nL cL) ∧ Wb.cell? ⟨W.heap.size + 1, 2, none⟩ = some (.slice aC nC cC) ∧ Wb.cell? ⟨W.heap.size + 1, 3, none⟩ = some (.slice aR nR cR)) := by rw [← hWb]; exact ⟨cell_al _ (by simp), cell_al _ (by simp), cell_al _ (by simp), cell_al _ (by simp)⟩
  have HZ : Hid (Wb.heap[W.heap.size + 1 + 1]? = some (.cells #[.int .i64 0, .slice none 0 0, .slice none 0 0, .slice none 0 0] 26)) := by
    show _ = _
    rw [← hWb]
    have := heap_alloc_new ((W.alloc (.cells #[.int .i64 k, .int .i64 r, .slice aT nT cT] 24)).alloc (.cells #[.int .i64 p, .slice aL nL cL, .slice aC nC cC, .slice aR nR cR] 26)) (.cells #[.int .i64 0, .slice none 0 0, .slice none 0 0, .slice none 0 0] 26)
    simpa using this
  have HSZ : Hid (Wb.heap.size = W.heap.size + 3) := by show _ = _; rw [← hWb]; simp
  have HS0 : Hid (W.heap.size < Wb.heap.size) := by show _ < _; have := HSZ.out; omega
  have HS1 : Hid (W.heap.size + 1 < Wb.heap.size) := by show _ < _; have := HSZ.out; omega
  have HBX : Hid (Below W.heap.size W Wb) := by rw [← hWb]; exact balloc (balloc (balloc (bnil W) _) _) _
  have HH := Lib.hid h; clear h
  have HT := Lib.hid hT; clear hT
  have HM := Lib.hid hM; clear hM
  have HG := Lib.hid hG; clear hG
  have HWB := Lib.hid hWb; clear hWb
  cases he : ruleErr k r tb with
  | some at_ =>
    have hd : rstepD k r tb p L C Q = some ([(opRow, 0), (opRule, at_)], 1) := by unfold rstepD; rw [he]
    have HD := Lib.hid hd; clear hd
    have HE := Lib.hid he; clear he
    go_enter Tryd.func10, Tryd.ntmps10
    go_wp2_with fail
    rw [HWB.out]
    refine (rcheck_err k r aT nT cT tb _ R (HG.out.up HBX.out) (HT.out.up HBX.out) hm at_ HE.out).mono ?_; rintro e w1 ⟨g1, rfl, he1, hb1⟩
    have HC1 := Lib.hid hb1
    have HR1 := Lib.hid he1
    clear he1 hb1
    go_wp2_with fail
    refine (undr_some _ _ _ _ _).mono ?_; rintro e w2 ⟨rfl, rfl⟩
    have hec := ec_under ⟨#[114, 111, 119]⟩ 0 (ec_err ((HSN.out.up HBX.out).up HC1.out) HR1.out)
    have HE7 := Lib.hid (HC1.out.alloc HC1.out.size (faultObj ⟨#[114, 111, 119]⟩ 0 (.iface 77 (.pointer (some ⟨g1, 0, none⟩)))))
    have hz7 := (HE7.out.block (W.heap.size + 1 + 1) (by have := HSZ.out; omega)).trans HZ.out
    have HZ7 := Lib.hid hz7
    obtain ⟨wz, hwz⟩ : ∃ wz, (w1.alloc (faultObj ⟨#[114, 111, 119]⟩ 0 (.iface 77 (.pointer (some ⟨g1, 0, none⟩))))) = wz := ⟨_, rfl⟩
    have z0 : (w1.alloc (faultObj ⟨#[114, 111, 119]⟩ 0 (.iface 77 (.pointer (some ⟨g1, 0, none⟩))))).cell? ⟨W.heap.size + 1 + 1, 0, none⟩ = some (.int .i64 0) := by simp only [World.cell?, hz7]; rfl
    have z1 : (w1.alloc (faultObj ⟨#[114, 111, 119]⟩ 0 (.iface 77 (.pointer (some ⟨g1, 0, none⟩))))).cell? ⟨W.heap.size + 1 + 1, 1, none⟩ = some (.slice none 0 0) := by simp only [World.cell?, hz7]; rfl
    have z2 : (w1.alloc (faultObj ⟨#[114, 111, 119]⟩ 0 (.iface 77 (.pointer (some ⟨g1, 0, none⟩))))).cell? ⟨W.heap.size + 1 + 1, 2, none⟩ = some (.slice none 0 0) := by simp only [World.cell?, hz7]; rfl
    have z3 : (w1.alloc (faultObj ⟨#[114, 111, 119]⟩ 0 (.iface 77 (.pointer (some ⟨g1, 0, none⟩))))).cell? ⟨W.heap.size + 1 + 1, 3, none⟩ = some (.slice none 0 0) := by simp only [World.cell?, hz7]; rfl
    have f0 : (w1.alloc (faultObj ⟨#[114, 111, 119]⟩ 0 (.iface 77 (.pointer (some ⟨g1, 0, none⟩))))).frozen? ⟨W.heap.size + 1 + 1, 0, none⟩ = false := by simp only [World.frozen?, hz7]; rfl
    have f1 : (w1.alloc (faultObj ⟨#[114, 111, 119]⟩ 0 (.iface 77 (.pointer (some ⟨g1, 0, none⟩))))).frozen? ⟨W.heap.size + 1 + 1, 1, none⟩ = false := by simp only [World.frozen?, hz7]; rfl
    have f2 : (w1.alloc (faultObj ⟨#[114, 111, 119]⟩ 0 (.iface 77 (.pointer (some ⟨g1, 0, none⟩))))).frozen? ⟨W.heap.size + 1 + 1, 2, none⟩ = false := by simp only [World.frozen?, hz7]; rfl
    have f3 : (w1.alloc (faultObj ⟨#[114, 111, 119]⟩ 0 (.iface 77 (.pointer (some ⟨g1, 0, none⟩))))).frozen? ⟨W.heap.size + 1 + 1, 3, none⟩ = false := by simp only [World.frozen?, hz7]; rfl
    rw [hwz] at z0 z1 z2 z3 f0 f1 f2 f3 HZ7 HE7 hec
    rw [hwz]
    clear hz7 hwz
    have HEC := Lib.hid hec
    clear hec
    go_wp2
    obtain ⟨w8, e8, ⟨r0, r1, r2', r3'⟩, hk8, hs8, hbl8⟩ := set4 HZ7.out (.int .i64 0) (.slice none 0 0) (.slice none 0 0) (.slice none 0 0)
    rw [e8]
    refine bodyPost_ret (v := .tuple #[rowV 0 none 0 0 none 0 0 none 0 0, .iface 77 (.pointer (some ⟨w1.heap.size, 0, none⟩))]) (by simp [results, Tryd.results10, go_sem, r0, r1, r2', r3']) rfl ?_
    rw [HD.out]
    exact ⟨_, rfl, HEC.out.oth HSN.out hk8 HZ7.out (by decide) (by omega), hbl8 _ _ (by omega) (HBX.out.trans (HE7.out.mono HBX.out.size))⟩
  | none =>
    obtain ⟨kn, rn, rfl, rfl, hI⟩ := ruleErr_none he
    have r3 := hI.r3
    have HI := Lib.hid hI; clear hI
    cases hx : rowErr (kn : Int) p L C Q with
    | some x =>
      have hd : rstepD (kn : Int) (rn : Int) tb p L C Q = some ([(opRow, x.1)], x.2) := by unfold rstepD; rw [he, hx]
      have HD := Lib.hid hd; clear hd
      have HE := Lib.hid hx; clear hx he
      go_enter Tryd.func10, Tryd.ntmps10
      go_wp2_with fail
      rw [HWB.out]
      refine (rcheck_ok kn rn aT nT cT tb _ (HT.out.up HBX.out) HI.out).mono ?_; rintro e w1 ⟨rfl, hb1⟩
      have x0 := (hb1.cell (p := ⟨W.heap.size, 0, none⟩) HS0.out).trans HX.out.1
      have y0 := (hb1.cell (p := ⟨W.heap.size + 1, 0, none⟩) HS1.out).trans HY.out.1
      have y1 := (hb1.cell (p := ⟨W.heap.size + 1, 1, none⟩) HS1.out).trans HY.out.2.1
      have y2 := (hb1.cell (p := ⟨W.heap.size + 1, 2, none⟩) HS1.out).trans HY.out.2.2.1
      have y3 := (hb1.cell (p := ⟨W.heap.size + 1, 3, none⟩) HS1.out).trans HY.out.2.2.2
      have HC1 := Lib.hid hb1
      have HB1 := Lib.hid (HBX.out.trans (hb1.mono HBX.out.size))
      clear hb1
      go_wp2_with fail
      refine (rowcheck_err kn p aL aC aR nL cL nC cC nR cR L C Q _ R (HG.out.up HB1.out) (HM.out.up HB1.out) x HE.out).mono ?_; rintro e w2 ⟨g2, rfl, he2, hb2⟩
      have HC2 := Lib.hid (HC1.out.trans (hb2.mono HC1.out.size))
      have HR2 := Lib.hid he2
      clear hb2 he2 x0 y0 y1 y2 y3
      have hec := ec_err (HSN.out.up (HBX.out.trans (HC2.out.mono HBX.out.size))) HR2.out
      have HE7 := Lib.hid HC2.out
      have hz7 := (HE7.out.block (W.heap.size + 1 + 1) (by have := HSZ.out; omega)).trans HZ.out
      have HZ7 := Lib.hid hz7
      obtain ⟨wz, hwz⟩ : ∃ wz, w2 = wz := ⟨_, rfl⟩
      have z0 : w2.cell? ⟨W.heap.size + 1 + 1, 0, none⟩ = some (.int .i64 0) := by simp only [World.cell?, hz7]; rfl
      have z1 : w2.cell? ⟨W.heap.size + 1 + 1, 1, none⟩ = some (.slice none 0 0) := by simp only [World.cell?, hz7]; rfl
      have z2 : w2.cell? ⟨W.heap.size + 1 + 1, 2, none⟩ = some (.slice none 0 0) := by simp only [World.cell?, hz7]; rfl
      have z3 : w2.cell? ⟨W.heap.size + 1 + 1, 3, none⟩ = some (.slice none 0 0) := by simp only [World.cell?, hz7]; rfl
      have f0 : w2.frozen? ⟨W.heap.size + 1 + 1, 0, none⟩ = false := by simp only [World.frozen?, hz7]; rfl
      have f1 : w2.frozen? ⟨W.heap.size + 1 + 1, 1, none⟩ = false := by simp only [World.frozen?, hz7]; rfl
      have f2 : w2.frozen? ⟨W.heap.size + 1 + 1, 2, none⟩ = false := by simp only [World.frozen?, hz7]; rfl
      have f3 : w2.frozen? ⟨W.heap.size + 1 + 1, 3, none⟩ = false := by simp only [World.frozen?, hz7]; rfl
      rw [hwz] at z0 z1 z2 z3 f0 f1 f2 f3 HZ7 HE7 hec
      rw [hwz]
      clear hz7 hwz
      have HEC := Lib.hid hec
      clear hec
      go_wp2
      obtain ⟨w8, e8, ⟨r0, r1, r2', r3'⟩, hk8, hs8, hbl8⟩ := set4 HZ7.out (.int .i64 0) (.slice none 0 0) (.slice none 0 0) (.slice none 0 0)
      rw [e8]
      refine bodyPost_ret (v := .tuple #[rowV 0 none 0 0 none 0 0 none 0 0, .iface 77 (.pointer (some ⟨g2, 0, none⟩))]) (by simp [results, Tryd.results10, go_sem, r0, r1, r2', r3']) rfl ?_
      rw [HD.out]
      exact ⟨_, rfl, HEC.out.oth HSN.out hk8 HZ7.out (by decide) (by omega), hbl8 _ _ (by omega) (HBX.out.trans (HE7.out.mono HBX.out.size))⟩
    | none =>
      obtain ⟨k', hk', hW⟩ := rowErr_none hx
      obtain rfl : kn = k' := by omega
      have HLC := Lib.hid HM.out.c.rk.len
      have hall : rstepD (kn : Int) (rn : Int) tb p L C Q = if p - (rn : Int) < -4096 then some ([(opRow, 1)], 3) else if 16384 < (nC : Int) + 2 * (rn : Int) then some ([(opRow, 4)], 4) else none := by unfold rstepD; rw [he, hx, HLC.out]
      have hno := HH.out
      rw [hall] at hno
      have HALL := Lib.hid hall
      have hp1 := hW.p1
      have hp2 := hW.p2
      have HW := Lib.hid hW; clear hW hx hk' HH hall he
      go_enter Tryd.func10, Tryd.ntmps10
      go_wp2_with fail
      rw [HWB.out]
      refine (rcheck_ok kn rn aT nT cT tb _ (HT.out.up HBX.out) HI.out).mono ?_; rintro e w1 ⟨rfl, hb1⟩
      have x0 := (hb1.cell (p := ⟨W.heap.size, 0, none⟩) HS0.out).trans HX.out.1
      have y0 := (hb1.cell (p := ⟨W.heap.size + 1, 0, none⟩) HS1.out).trans HY.out.1
      have y1 := (hb1.cell (p := ⟨W.heap.size + 1, 1, none⟩) HS1.out).trans HY.out.2.1
      have y2 := (hb1.cell (p := ⟨W.heap.size + 1, 2, none⟩) HS1.out).trans HY.out.2.2.1
      have y3 := (hb1.cell (p := ⟨W.heap.size + 1, 3, none⟩) HS1.out).trans HY.out.2.2.2
      have HC1 := Lib.hid hb1
      have HB1 := Lib.hid (HBX.out.trans (hb1.mono HBX.out.size))
      clear hb1
      go_wp2_with fail
      refine (rowcheck_ok kn p aL aC aR nL cL nC cC nR cR L C Q _ R (HG.out.up HB1.out) (HM.out.up HB1.out) HW.out).mono ?_; rintro e w2 ⟨rfl, hb2⟩
      have HC2 := Lib.hid (HC1.out.trans (hb2.mono HC1.out.size))
      clear hb2 x0 y0 y1 y2 y3
      have x0 := (HC2.out.cell (p := ⟨W.heap.size, 0, none⟩) HS0.out).trans HX.out.1
      have x1 := (HC2.out.cell (p := ⟨W.heap.size, 1, none⟩) HS0.out).trans HX.out.2.1
      have x2 := (HC2.out.cell (p := ⟨W.heap.size, 2, none⟩) HS0.out).trans HX.out.2.2
      have y0 := (HC2.out.cell (p := ⟨W.heap.size + 1, 0, none⟩) HS1.out).trans HY.out.1
      have y1 := (HC2.out.cell (p := ⟨W.heap.size + 1, 1, none⟩) HS1.out).trans HY.out.2.1
      have y2 := (HC2.out.cell (p := ⟨W.heap.size + 1, 2, none⟩) HS1.out).trans HY.out.2.2.1
      have y3 := (HC2.out.cell (p := ⟨W.heap.size + 1, 3, none⟩) HS1.out).trans HY.out.2.2.2
      by_cases hat : p - (rn : Int) < -4096
      · skip
        have hat2 : p - (rn : Int) < -4096 := hat
        have hd := HALL.out
        rw [if_pos hat] at hd
        have HD := Lib.hid hd
        clear hd hno HALL
        go_wp2_with fail
        go_quiet (fail)
        obtain ⟨w3, hw3⟩ : ∃ w3, w2.drewN nq = w3 := ⟨_, rfl⟩
        have hb3 : Below Wb.heap.size Wb w3 := by rw [← hw3]; exact below_drewN HC2.out nq
        rw [hw3]
        have HC3 := Lib.hid hb3
        have HB3 := Lib.hid (HBX.out.trans (hb3.mono HBX.out.size))
        clear hw3 hb3 x0 x1 x2 y0 y1 y2 y3
        go_wp2_with fail
        refine (row_wrong _ _ _ R (HG.out.up HB3.out) (by rfl)).mono ?_; rintro e w' ⟨rfl, rfl⟩
        have hec := ec_err ((HSN.out.up HB3.out).up (balloc (bnil w3) (faultObj opRow 1 (.iface 123 (.pointer (some (R (rix 3)))))))) (isErr_new (Nat.le_refl _))
        have HE7 := Lib.hid (HC3.out.alloc HC3.out.size (faultObj opRow 1 (.iface 123 (.pointer (some (R (rix 3)))))))
        have hz7 := (HE7.out.block (W.heap.size + 1 + 1) (by have := HSZ.out; omega)).trans HZ.out
        have HZ7 := Lib.hid hz7
        obtain ⟨wz, hwz⟩ : ∃ wz, (w3.alloc (faultObj opRow 1 (.iface 123 (.pointer (some (R (rix 3))))))) = wz := ⟨_, rfl⟩
        have z0 : (w3.alloc (faultObj opRow 1 (.iface 123 (.pointer (some (R (rix 3))))))).cell? ⟨W.heap.size + 1 + 1, 0, none⟩ = some (.int .i64 0) := by simp only [World.cell?, hz7]; rfl
        have z1 : (w3.alloc (faultObj opRow 1 (.iface 123 (.pointer (some (R (rix 3))))))).cell? ⟨W.heap.size + 1 + 1, 1, none⟩ = some (.slice none 0 0) := by simp only [World.cell?, hz7]; rfl
        have z2 : (w3.alloc (faultObj opRow 1 (.iface 123 (.pointer (some (R (rix 3))))))).cell? ⟨W.heap.size + 1 + 1, 2, none⟩ = some (.slice none 0 0) := by simp only [World.cell?, hz7]; rfl
        have z3 : (w3.alloc (faultObj opRow 1 (.iface 123 (.pointer (some (R (rix 3))))))).cell? ⟨W.heap.size + 1 + 1, 3, none⟩ = some (.slice none 0 0) := by simp only [World.cell?, hz7]; rfl
        have f0 : (w3.alloc (faultObj opRow 1 (.iface 123 (.pointer (some (R (rix 3))))))).frozen? ⟨W.heap.size + 1 + 1, 0, none⟩ = false := by simp only [World.frozen?, hz7]; rfl
        have f1 : (w3.alloc (faultObj opRow 1 (.iface 123 (.pointer (some (R (rix 3))))))).frozen? ⟨W.heap.size + 1 + 1, 1, none⟩ = false := by simp only [World.frozen?, hz7]; rfl
        have f2 : (w3.alloc (faultObj opRow 1 (.iface 123 (.pointer (some (R (rix 3))))))).frozen? ⟨W.heap.size + 1 + 1, 2, none⟩ = false := by simp only [World.frozen?, hz7]; rfl
        have f3 : (w3.alloc (faultObj opRow 1 (.iface 123 (.pointer (some (R (rix 3))))))).frozen? ⟨W.heap.size + 1 + 1, 3, none⟩ = false := by simp only [World.frozen?, hz7]; rfl
        rw [hwz] at z0 z1 z2 z3 f0 f1 f2 f3 HZ7 HE7 hec
        rw [hwz]
        clear hz7 hwz
        have HEC := Lib.hid hec
        clear hec
        go_wp2
        obtain ⟨w8, e8, ⟨r0, r1, r2', r3'⟩, hk8, hs8, hbl8⟩ := set4 HZ7.out (.int .i64 0) (.slice none 0 0) (.slice none 0 0) (.slice none 0 0)
        rw [e8]
        refine bodyPost_ret (v := .tuple #[rowV 0 none 0 0 none 0 0 none 0 0, .iface 77 (.pointer (some ⟨w3.heap.size, 0, none⟩))]) (by simp [results, Tryd.results10, go_sem, r0, r1, r2', r3']) rfl ?_
        rw [HD.out]
        exact ⟨_, rfl, HEC.out.oth HSN.out hk8 HZ7.out (by decide) (by omega), hbl8 _ _ (by omega) (HBX.out.trans (HE7.out.mono HBX.out.size))⟩
      · skip
        have hbg : (16384 : Int) < (nC : Int) + 2 * (rn : Int) := by rw [if_neg hat] at hno; exact Decidable.byContradiction fun hh => hno (if_neg hh)
        have hd := HALL.out
        rw [if_neg hat, if_pos hbg] at hd
        have HD := Lib.hid hd
        clear hd hno HALL
        go_wp2_with fail
        go_quiet (fail)
        obtain ⟨w3, hw3⟩ : ∃ w3, w2.drewN nq = w3 := ⟨_, rfl⟩
        have hb3 : Below Wb.heap.size Wb w3 := by rw [← hw3]; exact below_drewN HC2.out nq
        rw [hw3]
        have HC3 := Lib.hid hb3
        have HB3 := Lib.hid (HBX.out.trans (hb3.mono HBX.out.size))
        clear hw3 hb3 x0 x1 x2 y0 y1 y2 y3
        go_wp2_with fail
        refine (row_wrong _ _ _ R (HG.out.up HB3.out) (by rfl)).mono ?_; rintro e w' ⟨rfl, rfl⟩
        have hec := ec_err ((HSN.out.up HB3.out).up (balloc (bnil w3) (faultObj opRow 4 (.iface 123 (.pointer (some (R (rix 4)))))))) (isErr_new (Nat.le_refl _))
        have HE7 := Lib.hid (HC3.out.alloc HC3.out.size (faultObj opRow 4 (.iface 123 (.pointer (some (R (rix 4)))))))
        have hz7 := (HE7.out.block (W.heap.size + 1 + 1) (by have := HSZ.out; omega)).trans HZ.out
        have HZ7 := Lib.hid hz7
        obtain ⟨wz, hwz⟩ : ∃ wz, (w3.alloc (faultObj opRow 4 (.iface 123 (.pointer (some (R (rix 4))))))) = wz := ⟨_, rfl⟩
        have z0 : (w3.alloc (faultObj opRow 4 (.iface 123 (.pointer (some (R (rix 4))))))).cell? ⟨W.heap.size + 1 + 1, 0, none⟩ = some (.int .i64 0) := by simp only [World.cell?, hz7]; rfl
        have z1 : (w3.alloc (faultObj opRow 4 (.iface 123 (.pointer (some (R (rix 4))))))).cell? ⟨W.heap.size + 1 + 1, 1, none⟩ = some (.slice none 0 0) := by simp only [World.cell?, hz7]; rfl
        have z2 : (w3.alloc (faultObj opRow 4 (.iface 123 (.pointer (some (R (rix 4))))))).cell? ⟨W.heap.size + 1 + 1, 2, none⟩ = some (.slice none 0 0) := by simp only [World.cell?, hz7]; rfl
        have z3 : (w3.alloc (faultObj opRow 4 (.iface 123 (.pointer (some (R (rix 4))))))).cell? ⟨W.heap.size + 1 + 1, 3, none⟩ = some (.slice none 0 0) := by simp only [World.cell?, hz7]; rfl
        have f0 : (w3.alloc (faultObj opRow 4 (.iface 123 (.pointer (some (R (rix 4))))))).frozen? ⟨W.heap.size + 1 + 1, 0, none⟩ = false := by simp only [World.frozen?, hz7]; rfl
        have f1 : (w3.alloc (faultObj opRow 4 (.iface 123 (.pointer (some (R (rix 4))))))).frozen? ⟨W.heap.size + 1 + 1, 1, none⟩ = false := by simp only [World.frozen?, hz7]; rfl
        have f2 : (w3.alloc (faultObj opRow 4 (.iface 123 (.pointer (some (R (rix 4))))))).frozen? ⟨W.heap.size + 1 + 1, 2, none⟩ = false := by simp only [World.frozen?, hz7]; rfl
        have f3 : (w3.alloc (faultObj opRow 4 (.iface 123 (.pointer (some (R (rix 4))))))).frozen? ⟨W.heap.size + 1 + 1, 3, none⟩ = false := by simp only [World.frozen?, hz7]; rfl
        rw [hwz] at z0 z1 z2 z3 f0 f1 f2 f3 HZ7 HE7 hec
        rw [hwz]
        clear hz7 hwz
        have HEC := Lib.hid hec
        clear hec
        go_wp2
        obtain ⟨w8, e8, ⟨r0, r1, r2', r3'⟩, hk8, hs8, hbl8⟩ := set4 HZ7.out (.int .i64 0) (.slice none 0 0) (.slice none 0 0) (.slice none 0 0)
        rw [e8]
        refine bodyPost_ret (v := .tuple #[rowV 0 none 0 0 none 0 0 none 0 0, .iface 77 (.pointer (some ⟨w3.heap.size, 0, none⟩))]) (by simp [results, Tryd.results10, go_sem, r0, r1, r2', r3']) rfl ?_
        rw [HD.out]
        exact ⟨_, rfl, HEC.out.oth HSN.out hk8 HZ7.out (by decide) (by omega), hbl8 _ _ (by omega) (HBX.out.trans (HE7.out.mono HBX.out.size))⟩
end Go.Proofs.YtkgalgmjdfhhbaaDoor
