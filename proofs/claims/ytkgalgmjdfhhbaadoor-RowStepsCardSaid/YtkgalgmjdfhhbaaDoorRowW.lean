/- The contracts of edenraw.LentRule, KeptRule, edenref07.Step and row.Step, for all arguments. -/
import Derived.Test.YtkgalgmjdfhhbaaDoorRowU
import Derived.Test.YtkgalgmjdfhhbaaDoorRowQ
namespace Go.Proofs.YtkgalgmjdfhhbaaDoor
open Go.RowKit
set_option linter.unusedVariables false
set_option maxRecDepth 100000

/-- three cells of a block set -/
theorem set3 {w : World} {g : Nat} {x0 x1 x2 : Value} {t : TypeId} {fr : Nat × Nat} (h : w.heap[g]? = some (.cells #[x0, x1, x2] t fr)) (u0 u1 u2 : Value) :
    ∃ w6, (((w.setCell ⟨g, 0, none⟩ u0).setCell ⟨g, 1, none⟩ u1).setCell ⟨g, 2, none⟩ u2) = w6 ∧ (w6.cell? ⟨g, 0, none⟩ = some u0 ∧ w6.cell? ⟨g, 1, none⟩ = some u1 ∧ w6.cell? ⟨g, 2, none⟩ = some u2) ∧ (∀ k, k ≠ g → w6.heap[k]? = w.heap[k]?) ∧ w6.heap.size = w.heap.size ∧ ∀ (V : World) (B : Nat), B ≤ g → Below B V w → Below B V w6 := by
  refine ⟨_, rfl, ?_, fun k hk => ?_, ?_, fun V B hB hb => ?_⟩
  · simp [World.cell?, World.setCell, Array.getElem?_modify, h]
  · rw [Below.heap_setCell _ _ _ _ hk, Below.heap_setCell _ _ _ _ hk, Below.heap_setCell _ _ _ _ hk]
  · simp [World.setCell]
  · exact ((hb.setCell (p := ⟨g, 0, none⟩) hB u0).setCell (p := ⟨g, 1, none⟩) hB u1).setCell (p := ⟨g, 2, none⟩) hB u2
theorem e_cells {w : World} {g : Nat} {x0 x1 x2 : Value} {t : TypeId} (h : w.heap[g]? = some (.cells #[x0, x1, x2] t)) : (w.cell? ⟨g, 0, none⟩ = some x0 ∧ w.cell? ⟨g, 1, none⟩ = some x1 ∧ w.cell? ⟨g, 2, none⟩ = some x2) ∧ w.frozen? ⟨g, 0, none⟩ = false ∧ w.frozen? ⟨g, 1, none⟩ = false ∧ w.frozen? ⟨g, 2, none⟩ = false := by
  simp [World.cell?, World.frozen?, h]
theorem cell_blk {w w6 : World} {g b o : Nat} {v : Value} (hk : ∀ k, k ≠ g → w6.heap[k]? = w.heap[k]?) (h : w.cell? ⟨b, o, none⟩ = some v) (hne : b ≠ g) : w6.cell? ⟨b, o, none⟩ = some v := by
  rw [World.cell?_of_block (hk b hne)]; exact h

set_option maxHeartbeats 4000000 in
theorem lentRule_any (k r : Int) (aT : Option Addr) (nT cT : Nat) (tb : List Int) (W : World) (hT : RK .i64 W aT nT tb) (h8 : nT * 8 ≤ 140737488351232) :
    Calls Tryd.prog 28 #[ruleV k r aT nT cT] W fun e w' => ∃ g, e = .returned (ruleV k r (some ⟨g, 0, none⟩) nT (nT + 2)) ∧ LentM w' g nT tb ∧ Below W.heap.size W w' := by
  obtain ⟨Wb, hWb⟩ : ∃ Wb, (W.alloc (.cells #[.int .i64 k, .int .i64 r, .slice aT nT cT] 24)).alloc (.cells #[.int .i64 0, .int .i64 0, .slice none 0 0] 24) = Wb := ⟨_, rfl⟩
  have HX : Hid (Wb.cell? ⟨W.heap.size, 0, none⟩ = some (.int .i64 k) ∧ Wb.cell? ⟨W.heap.size, 1, none⟩ = some (.int .i64 r) ∧ Wb.cell? ⟨W.heap.size, 2, none⟩ = some (.slice aT nT cT)) := by rw [← hWb]; exact ⟨al00 (by simp), al00 (by simp), al00 (by simp)⟩
  have HZ : Hid (Wb.heap[W.heap.size + 1]? = some (.cells #[.int .i64 0, .int .i64 0, .slice none 0 0] 24)) := by
    show _ = _
    rw [← hWb]
    have := heap_alloc_new (W.alloc (.cells #[.int .i64 k, .int .i64 r, .slice aT nT cT] 24)) (.cells #[.int .i64 0, .int .i64 0, .slice none 0 0] 24)
    simpa using this
  have HSZ : Hid (Wb.heap.size = W.heap.size + 2) := by show _ = _; rw [← hWb]; simp
  have HBX : Hid (Below W.heap.size W Wb) := by rw [← hWb]; exact balloc (balloc (bnil W) _) _
  have HT := Lib.hid (hT.up (Below.drew HBX.out)); clear hT
  have HS0 : Hid (Wb.drew.cell? ⟨W.heap.size, 0, none⟩ = some (.int .i64 k) ∧ Wb.drew.cell? ⟨W.heap.size, 1, none⟩ = some (.int .i64 r) ∧ Wb.drew.cell? ⟨W.heap.size, 2, none⟩ = some (.slice aT nT cT)) := HX.out
  have HLZ : Hid (W.heap.size + 1 < Wb.drew.heap.size) := by show W.heap.size + 1 < Wb.heap.size; have := HSZ.out; omega
  have hg1 : W.heap.size ≠ W.heap.size + 1 := by omega
  have HWB := Lib.hid hWb; clear hWb
  go_enter Tryd.func28, Tryd.ntmps28
  go_wp2_with fail
  rw [HWB.out]
  go_region_held3 (fun w' => w'.cell? ⟨W.heap.size, 0, none⟩ = some (.int .i64 k) ∧ w'.cell? ⟨W.heap.size, 1, none⟩ = some (.int .i64 r) ∧ w'.cell? ⟨W.heap.size, 2, none⟩ = some (.slice aT nT cT))
    (first | with_reducible exact HS5.out | with_reducible exact HS0.out | with_reducible exact ⟨set3_cell (HS5.out).1 hg1, set3_cell (HS5.out).2.1 hg1, set3_cell (HS5.out).2.2 hg1⟩ | go_keep)
    (first
      | (go_at_call 40; (with_reducible refine (lent_ex aT nT cT tb _ HT.out h8).mono ?_); rintro e w5 ⟨g5, c5, rfl, hc5, ho5, hb5⟩; have HC5 := Lib.hid hc5; have HO5 := Lib.hid ho5; have HD5 := Lib.hid hb5; have HS5 := Lib.hid (And.intro (cpb hb5 (HS0.out).1) (And.intro (cpb hb5 (HS0.out).2.1) (cpb hb5 (HS0.out).2.2))); have hz5 := (HD5.out.block (W.heap.size + 1) HLZ.out).trans HZ.out; have HZ5 := Lib.hid hz5; obtain ⟨⟨c0, c1', c2'⟩, f0, f1, f2⟩ := e_cells hz5; clear ho5 hb5 hz5 hc5))
  obtain ⟨w8, e8, ⟨r0, r1, r2⟩, hk8, hs8, hbl8⟩ := set3 HZ5.out (.int .i64 k) (.int .i64 r) (.slice (some ⟨g5, 0, none⟩) nT c5)
  rw [e8]
  go_wp2
  refine bodyPost_ret (v := ruleV k r (some ⟨g5, 0, none⟩) nT c5) (by simp [results, Tryd.results28, go_sem, r0, r1, r2]) rfl ?_
  have hsd : Wb.drew.heap.size = W.heap.size + 2 := HSZ.out
  exact ⟨g5, by rw [HC5.out], (HO5.out.heap fun b hb => hk8 b (by omega)).rk, hbl8 _ _ (by omega) (bstep (Below.drew HBX.out) HD5.out)⟩

set_option maxHeartbeats 4000000 in
theorem keptRule_any (k r : Int) (g : Nat) (aT : Option Addr) (nT cT : Nat) (tb : List Int) (W : World) (hL : LentM W g nT tb) (hT : RK .i64 W aT nT tb) (h8 : nT * 8 ≤ 140737488351232) :
    Calls Tryd.prog 30 #[ruleV k r (some ⟨g, 0, none⟩) nT (nT + 2), ruleV k r aT nT cT] W fun e w' => e = .returned (.bool true) ∧ Below W.heap.size W w' := by
  obtain ⟨Wb, hWb⟩ : ∃ Wb, (W.alloc (.cells #[.int .i64 k, .int .i64 r, .slice (some ⟨g, 0, none⟩) nT (nT + 2)] 24)).alloc (.cells #[.int .i64 k, .int .i64 r, .slice aT nT cT] 24) = Wb := ⟨_, rfl⟩
  have HBX : Hid (Below W.heap.size W Wb) := by rw [← hWb]; exact balloc (balloc (bnil W) _) _
  have hmx : nT + 2 ≤ maxLen := by unfold maxLen; omega
  have HMX := Lib.hid hmx
  have HL := Lib.hid hL
  have HT := Lib.hid hT
  clear hL hT hmx
  have HWB := Lib.hid hWb; clear hWb
  go_enter Tryd.func30, Tryd.ntmps30
  go_wp2_with fail
  rw [HWB.out]
  refine (kept_any g nT (nT + 2) cT aT tb _ (HL.out.up HBX.out) (Nat.le_refl _) HMX.out (HT.out.up HBX.out) h8).mono ?_; rintro e w1 ⟨rfl, hb1⟩
  go_wp2
  go_ret
  exact ⟨rfl, HBX.out.trans (hb1.mono HBX.out.size)⟩

theorem wc_num {w : World} {N n : Int} {x y : Value} {es : List (ByteArray × Int)} (h : WC w (.agg #[.int .i64 N, x, y]) (some (es, n))) : N = n := by
  obtain ⟨⟨ao, aa, co, ca, e, _⟩, _⟩ := h
  simp only [Value.agg.injEq, Array.mk.injEq, List.cons.injEq, Value.int.injEq] at e
  exact e.1.2
theorem refRule_ok0 (k r : Int) (aT : Option Addr) (nT cT : Nat) (tb : List Int) (W : World) (hR : RK .i64 W aT nT tb) (hm : nT ≤ maxLen) (h : ruleErr k r tb = none) :
    Calls Tryd.prog 55 #[ruleV k r aT nT cT] W fun e w' => e = .returned (.agg #[.int .i64 0, .slice none 0 0, .slice none 0 0]) ∧ Below W.heap.size W w' := by
  refine (refRule_any k r aT nT cT tb W hR hm).mono ?_
  rintro e w' ⟨N, a1, n1, c1, a2, n2, c2, rfl, _, _, _, _, hz, hb⟩
  obtain ⟨rfl, rfl, rfl, rfl, rfl, rfl, rfl⟩ := hz (by unfold ruleD; rw [h]; rfl)
  exact ⟨rfl, hb⟩
theorem refUnder_none0 (op : ByteArray) (at_ : Int) (W : World) : Calls Tryd.prog 54 #[.string op, .int .i64 at_, .agg #[.int .i64 0, .slice none 0 0, .slice none 0 0]] W fun e w' => e = .returned (.agg #[.int .i64 0, .slice none 0 0, .slice none 0 0]) ∧ Below W.heap.size W w' := by
  refine (refUnder_none op at_ W).mono ?_
  rintro e w' ⟨N, a1, n1, c1, a2, n2, c2, rfl, _, _, _, _, hz, hb⟩
  obtain ⟨rfl, rfl, rfl, rfl, rfl, rfl, rfl⟩ := hz rfl
  exact ⟨rfl, hb⟩
/-- the image's row, or none -/
def rstepO (k r : Int) (tb : List Int) (p : Int) (L C Q : List Int) : Int × List Int × List Int × List Int :=
  if rstepD k r tb p L C Q = none then (p - r, valsF (img k.toNat r.toNat tb (cellF p L C Q)) (p - r - (L.length : Int)) L.length, valsF (img k.toNat r.toNat tb (cellF p L C Q)) (p - r) (C.length + 2 * r.toNat), valsF (img k.toNat r.toNat tb (cellF p L C Q)) (p - r + ((C.length + 2 * r.toNat : Nat) : Int)) Q.length) else (0, [], [], [])
/-- a row and an error as the document has them -/
def RowRefP (W : World) (o : Int × List Int × List Int × List Int) (x : ErrD) (e : Ending) (w' : World) : Prop := ∃ a1 n1 c1 a2 n2 c2 a3 n3 c3 N b1 m1 d1 b2 m2 d2, e = .returned (.tuple #[rowV o.1 a1 n1 c1 a2 n2 c2 a3 n3 c3, .agg #[.int .i64 N, .slice b1 m1 d1, .slice b2 m2 d2]]) ∧ RK .i64 w' a1 n1 o.2.1 ∧ RK .i64 w' a2 n2 o.2.2.1 ∧ RK .i64 w' a3 n3 o.2.2.2 ∧ WC w' (.agg #[.int .i64 N, .slice b1 m1 d1, .slice b2 m2 d2]) x ∧ Below W.heap.size W w'
/-- a row and an error -/
def RowProP (R : Nat → Addr) (W : World) (o : Int × List Int × List Int × List Int) (x : ErrD) (e : Ending) (w' : World) : Prop := ∃ a1 n1 c1 a2 n2 c2 a3 n3 c3 ev, e = .returned (.tuple #[rowV o.1 a1 n1 c1 a2 n2 c2 a3 n3 c3, ev]) ∧ RK .i64 w' a1 n1 o.2.1 ∧ RK .i64 w' a2 n2 o.2.2.1 ∧ RK .i64 w' a3 n3 o.2.2.2 ∧ EC R w' ev x ∧ Below W.heap.size W w'

theorem rstepD_none {k r : Int} {tb : List Int} {p : Int} {L C Q : List Int} (h : rstepD k r tb p L C Q = none) : ∃ kn rn : Nat, k = (kn : Int) ∧ r = (rn : Int) ∧ IsRule kn rn tb ∧ IsRow kn p L C Q ∧ -4096 ≤ p - r ∧ C.length + 2 * rn ≤ 16384 := by
  unfold rstepD at h
  cases h1 : ruleErr k r tb with
  | some a => rw [h1] at h; cases h
  | none =>
    obtain ⟨kn, rn, rfl, rfl, hI⟩ := ruleErr_none h1
    rw [h1] at h
    cases h2 : rowErr (kn : Int) p L C Q with
    | some a => rw [h2] at h; cases h
    | none =>
      obtain ⟨k', e, hR⟩ := rowErr_none h2
      obtain rfl : kn = k' := by omega
      rw [h2] at h
      simp only at h
      split at h
      · cases h
      · split at h
        · cases h
        · exact ⟨kn, rn, rfl, rfl, hI, hR, by omega, by omega⟩

theorem rowstep_any (k r : Int) (aT : Option Addr) (nT cT : Nat) (tb : List Int) (p : Int) (aL aC aR : Option Addr) (nL cL nC cC nR cR : Nat) (L C Q : List Int) (W : World) (R : Nat → Addr) (hS : Sent W R) (hT : RK .i64 W aT nT tb) (hm : nT ≤ maxLen) (hM : RowM W aL nL cL L aC nC cC C aR nR cR Q) :
    Calls Tryd.prog 10 #[ruleV k r aT nT cT, rowV p aL nL cL aC nC cC aR nR cR] W (RowProP R W (rstepO k r tb p L C Q) (rstepD k r tb p L C Q)) := by
  by_cases h : rstepD k r tb p L C Q = none
  · obtain ⟨kn, rn, rfl, rfl, hI, hR, h1, h2⟩ := rstepD_none h
    have eL := hM.l.rk.len
    have eC := hM.c.rk.len
    have eR := hM.r.rk.len
    refine (rowstep_ok kn rn aT nT cT tb p aL aC aR nL cL nC cC nR cR L C Q W R hS.glob hT hI hM hR h1 (by omega)).mono ?_
    rintro e w' ⟨a1, c1, a2, c2, a3, c3, rfl, ho⟩
    have hO : rstepO (kn : Int) (rn : Int) tb p L C Q = (p - (rn : Int), valsF (img kn rn tb (cellF p L C Q)) (p - (rn : Int) - (L.length : Int)) L.length, valsF (img kn rn tb (cellF p L C Q)) (p - (rn : Int)) (C.length + 2 * rn), valsF (img kn rn tb (cellF p L C Q)) (p - (rn : Int) + ((C.length + 2 * rn : Nat) : Int)) Q.length) := by
      unfold rstepO; rw [if_pos h]; rfl
    rw [hO, h]
    subst eL eC eR
    exact ⟨_, _, _, _, _, _, _, _, _, _, rfl, ho.L.rk, ho.C.rk, ho.R.rk, rfl, ho.bel⟩
  · refine (rowstep_errE k r aT nT cT tb p aL aC aR nL cL nC cC nR cR L C Q W R hS hT hm hM h).mono ?_
    rintro e w' ⟨ev, rfl, he, hb⟩
    have hO : rstepO k r tb p L C Q = (0, [], [], []) := by unfold rstepO; rw [if_neg h]
    rw [hO]
    exact ⟨none, 0, 0, none, 0, 0, none, 0, 0, ev, rfl, RK.nil, RK.nil, RK.nil, he, hb⟩

set_option maxHeartbeats 16000000 in
theorem refstep_any (k r : Int) (aT : Option Addr) (nT cT : Nat) (tb : List Int) (p : Int) (aL aC aR : Option Addr) (nL cL nC cC nR cR : Nat) (L C Q : List Int) (W : World) (hT : RK .i64 W aT nT tb) (hm : nT ≤ maxLen) (hM : RowM W aL nL cL L aC nC cC C aR nR cR Q) :
    Calls Tryd.prog 29 #[ruleV k r aT nT cT, rowV p aL nL cL aC nC cC aR nR cR] W (RowRefP W (rstepO k r tb p L C Q) (rstepD k r tb p L C Q)) := by
  have mC := hM.c.n8
  obtain ⟨Wb, hWb⟩ : ∃ Wb, (((W.alloc (.cells #[.int .i64 k, .int .i64 r, .slice aT nT cT] 24)).alloc (.cells #[.int .i64 p, .slice aL nL cL, .slice aC nC cC, .slice aR nR cR] 26)).alloc (.cells #[.int .i64 0, .slice none 0 0, .slice none 0 0, .slice none 0 0] 26)).alloc (.cells #[.int .i64 0, .slice none 0 0, .slice none 0 0] 47) = Wb := ⟨_, rfl⟩
  have HX : Hid (Wb.cell? ⟨W.heap.size, 0, none⟩ = some (.int .i64 k) ∧ Wb.cell? ⟨W.heap.size, 1, none⟩ = some (.int .i64 r) ∧ Wb.cell? ⟨W.heap.size, 2, none⟩ = some (.slice aT nT cT) ∧ Wb.cell? ⟨W.heap.size + 1, 0, none⟩ = some (.int .i64 p) ∧ Wb.cell? ⟨W.heap.size + 1, 1, none⟩ = some (.slice aL nL cL) ∧ Wb.cell? ⟨W.heap.size + 1, 2, none⟩ = some (.slice aC nC cC) ∧ Wb.cell? ⟨W.heap.size + 1, 3, none⟩ = some (.slice aR nR cR)) := by rw [← hWb]; exact ⟨al00 (al00 (al00 (by simp))), al00 (al00 (al00 (by simp))), al00 (al00 (al00 (by simp))), al00 (al00 (by simp)), al00 (al00 (by simp)), al00 (al00 (by simp)), al00 (al00 (by simp))⟩
  have HZ4 : Hid (Wb.heap[W.heap.size + 1 + 1]? = some (.cells #[.int .i64 0, .slice none 0 0, .slice none 0 0, .slice none 0 0] 26)) := by
    show _ = _
    rw [← hWb, (balloc (bnil _) (.cells #[.int .i64 0, .slice none 0 0, .slice none 0 0] 47)).block _ (by simp)]
    have := heap_alloc_new ((W.alloc (.cells #[.int .i64 k, .int .i64 r, .slice aT nT cT] 24)).alloc (.cells #[.int .i64 p, .slice aL nL cL, .slice aC nC cC, .slice aR nR cR] 26)) (.cells #[.int .i64 0, .slice none 0 0, .slice none 0 0, .slice none 0 0] 26)
    simpa using this
  have HZ5 : Hid (Wb.heap[W.heap.size + 1 + 1 + 1]? = some (.cells #[.int .i64 0, .slice none 0 0, .slice none 0 0] 47)) := by
    show _ = _
    rw [← hWb]
    have := heap_alloc_new (((W.alloc (.cells #[.int .i64 k, .int .i64 r, .slice aT nT cT] 24)).alloc (.cells #[.int .i64 p, .slice aL nL cL, .slice aC nC cC, .slice aR nR cR] 26)).alloc (.cells #[.int .i64 0, .slice none 0 0, .slice none 0 0, .slice none 0 0] 26)) (.cells #[.int .i64 0, .slice none 0 0, .slice none 0 0] 47)
    simpa using this
  have HSZ : Hid (Wb.heap.size = W.heap.size + 4) := by show _ = _; rw [← hWb]; simp
  have HBX : Hid (Below W.heap.size W Wb) := by rw [← hWb]; exact balloc (balloc (balloc (balloc (bnil W) _) _) _) _
  have hne : W.heap.size + 1 + 1 + 1 ≠ W.heap.size + 1 + 1 := by omega
  have HT := Lib.hid hT; clear hT
  have HM := Lib.hid hM; clear hM
  have HWB := Lib.hid hWb; clear hWb
  cases hr : ruleErr k r tb with
  | some at_ =>
    have hd : rstepD k r tb p L C Q = some ([(opRow, 0), (opRule, at_)], 1) := by unfold rstepD; rw [hr]
    have HD := Lib.hid hd
    have hq : ruleD k r tb = some ([(opRule, at_)], 1) := by unfold ruleD; rw [hr]; rfl
    have HQ := Lib.hid hq
    clear hd hr hq
    go_enter Tryd.func29, Tryd.ntmps29
    go_wp2_with fail
    rw [HWB.out]
    refine (refRule_any k r aT nT cT tb _ (HT.out.up HBX.out) hm).mono ?_; rw [HQ.out]; rintro e w1 ⟨N1, a1, n1, c1, a2, n2, c2, rfl, hw1, _, _, _, _, hb1⟩
    obtain rfl := wc_num hw1
    have HW1 := Lib.hid hw1
    have HC1 := Lib.hid hb1
    clear hw1 hb1
    go_wp2_with fail
    refine (refUnder_some _ _ 1 _ a1 a2 n1 c1 n2 c2 _ HW1.out (by simp) (by simp)).mono ?_; rintro e w2 ⟨N2, b1, m1, d1, b2, m2, d2, rfl, hw2, f1, f2, _, _, hb2⟩
    obtain rfl := wc_num hw2
    obtain ⟨We, hWe⟩ : ∃ We, w2.alloc (.cells #[.int .i64 1, .slice b1 m1 d1, .slice b2 m2 d2] 47) = We := ⟨_, rfl⟩
    have hbe : Below w2.heap.size w2 We := by rw [← hWe]; exact balloc (bnil w2) _
    have HWT := Lib.hid (hw2.up hbe)
    have hl1 := HC1.out.size
    have hsz := HSZ.out
    have FR1 : Hid (Fr (W.heap.size + 4) b1) := f1.base (by omega)
    have HLV : Hid (Wb.heap.size ≤ w2.heap.size) := Nat.le_trans HC1.out.size hb2.size
    have FR2 : Hid (Fr (W.heap.size + 4) b2) := f2.base (by omega)
    have HC2 := Lib.hid (bstep HC1.out (hb2.trans (hbe.mono hb2.size)))
    have HWE := Lib.hid hWe
    clear hWe hbe hw2 hb2 f1 f2 hl1 hsz
    go_wp2_with fail
    rw [HWE.out]
    refine (rawBad_any _ _ _ _).mono ?_; rintro e w3 ⟨rfl, hb3⟩
    have he3 := hb3
    rw [← HWE.out] at he3
    obtain ⟨⟨v0, v1, v2⟩, h0, h1, h2⟩ := res3 rfl he3
    have HC3 := Lib.hid (bstep HC2.out hb3)
    have HV3 := Lib.hid (And.intro v0 (And.intro v1 v2))
    have HWT3 := Lib.hid (HWT.out.up hb3)
    clear he3 hb3 h0 h1 h2
    go_wp2_with fail
    refine (rawBad_any _ _ _ _).mono ?_; rintro e w8 ⟨rfl, hb8⟩
    have HC8 := Lib.hid (bstep HC3.out hb8)
    have HW8 := Lib.hid (HWT3.out.up hb8)
    clear v0 v1 v2
    have v0 := cpb hb8 HV3.out.1
    have v1 := cpb hb8 HV3.out.2.1
    have v2 := cpb hb8 HV3.out.2.2
    clear hb8
    have hz4 := (HC8.out.block (W.heap.size + 1 + 1) (by have := HSZ.out; omega)).trans HZ4.out
    have hz5 := (HC8.out.block (W.heap.size + 1 + 1 + 1) (by have := HSZ.out; omega)).trans HZ5.out
    have HZ48 := Lib.hid hz4
    have HZ58 := Lib.hid hz5
    obtain ⟨⟨c0, c1', c2', c3'⟩, f0, f1, f2, f3⟩ := z_cells hz4
    obtain ⟨⟨d0, d1', d2'⟩, g0, g1, g2⟩ := e_cells hz5
    clear hz4 hz5
    have hgt : W.heap.size + 1 + 1 + 1 < w2.heap.size := by have := HSZ.out; have := HLV.out; omega
    have hn1 : ¬ w2.heap.size = W.heap.size + 1 + 1 := by omega
    have hn2 : ¬ w2.heap.size = W.heap.size + 1 + 1 + 1 := by omega
    have hn3 : ¬ W.heap.size + 1 + 1 = w2.heap.size := by omega
    have hn4 : ¬ W.heap.size + 1 + 1 + 1 = w2.heap.size := by omega
    go_wp2
    go_region
    all_goals first
    | (obtain ⟨wa, ea, ⟨r0, r1, r2, r3⟩, hka, hsa, hbla⟩ := set4 HZ48.out (.int .i64 (0)) (.slice none 0 0) (.slice none 0 0) (.slice none 0 0)
       rw [ea]
       obtain ⟨w9, e9, ⟨t0, t1, t2⟩, hk9, hs9, hbl9⟩ := set3 ((hka _ hne).trans HZ58.out) (.int .i64 1) (.slice b1 m1 d1) (.slice b2 m2 d2)
       rw [e9]
       have q0 := cell_blk hk9 r0 hne.symm
       have q1 := cell_blk hk9 r1 hne.symm
       have q2 := cell_blk hk9 r2 hne.symm
       have q3 := cell_blk hk9 r3 hne.symm
       go_wp2
       refine bodyPost_ret (v := .tuple #[.agg #[.int .i64 (0), .slice none 0 0, .slice none 0 0, .slice none 0 0], .agg #[.int .i64 1, .slice b1 m1 d1, .slice b2 m2 d2]]) (by simp [results, Tryd.results29, go_sem, q0, q1, q2, q3, t0, t1, t2]) rfl ?_
       have hbf := hbl9 W W.heap.size (by omega) (hbla W W.heap.size (by omega) (HBX.out.trans (HC8.out.mono HBX.out.size)))
       have hw9 := (HW8.out.other hka hsa (FR1.out.base (by omega)) (FR2.out.base (by omega))).other hk9 hs9 (FR1.out.base (by omega)) (FR2.out.base (by omega))
       have hO : rstepO k r tb p L C Q = (0, [], [], []) := by unfold rstepO; rw [if_neg (by rw [HD.out]; simp)]
       rw [hO, HD.out]
       exact ⟨none, 0, 0, none, 0, 0, none, 0, 0, _, _, _, _, _, _, _, rfl, RK.nil, RK.nil, RK.nil, hw9.up (Below.drew (bnil w9)), Below.drew hbf⟩)
    | (obtain ⟨wa, ea, ⟨t0, t1, t2⟩, hka, hsa, hbla⟩ := set3 HZ58.out (.int .i64 1) (.slice b1 m1 d1) (.slice b2 m2 d2)
       rw [ea]
       obtain ⟨w9, e9, ⟨q0, q1, q2, q3⟩, hk9, hs9, hbl9⟩ := set4 ((hka _ hne.symm).trans HZ48.out) (.int .i64 (0)) (.slice none 0 0) (.slice none 0 0) (.slice none 0 0)
       rw [e9]
       have u0 := cell_blk hk9 t0 hne
       have u1 := cell_blk hk9 t1 hne
       have u2 := cell_blk hk9 t2 hne
       go_wp2
       refine bodyPost_ret (v := .tuple #[.agg #[.int .i64 (0), .slice none 0 0, .slice none 0 0, .slice none 0 0], .agg #[.int .i64 1, .slice b1 m1 d1, .slice b2 m2 d2]]) (by simp [results, Tryd.results29, go_sem, q0, q1, q2, q3, u0, u1, u2]) rfl ?_
       have hbf := hbl9 W W.heap.size (by omega) (hbla W W.heap.size (by omega) (HBX.out.trans (HC8.out.mono HBX.out.size)))
       have hw9 := (HW8.out.other hka hsa (FR1.out.base (by omega)) (FR2.out.base (by omega))).other hk9 hs9 (FR1.out.base (by omega)) (FR2.out.base (by omega))
       have hO : rstepO k r tb p L C Q = (0, [], [], []) := by unfold rstepO; rw [if_neg (by rw [HD.out]; simp)]
       rw [hO, HD.out]
       exact ⟨none, 0, 0, none, 0, 0, none, 0, 0, _, _, _, _, _, _, _, rfl, RK.nil, RK.nil, RK.nil, hw9.up (Below.drew (bnil w9)), Below.drew hbf⟩)
  | none =>
    have HR := Lib.hid hr
    cases hx : rowErr k p L C Q with
    | some x =>
      obtain ⟨xa, xn⟩ := x
      have hd : rstepD k r tb p L C Q = some ([(opRow, xa)], xn) := by unfold rstepD; rw [hr, hx]
      have HD := Lib.hid hd
      have hn0 : (xn != 0) = true := by have := rowErr_ne hx; simpa using this
      have HE := Lib.hid hx
      clear hd hr hx
      go_enter Tryd.func29, Tryd.ntmps29
      go_wp2_with fail
      rw [HWB.out]
      refine (refRule_ok0 k r aT nT cT tb _ (HT.out.up HBX.out) hm HR.out).mono ?_; rintro e w1 ⟨rfl, hb1⟩
      have HC1 := Lib.hid hb1
      have HB1 := Lib.hid (HBX.out.trans (hb1.mono HBX.out.size))
      clear hb1
      go_wp2_with fail
      refine (refUnder_none0 _ _ _).mono ?_; rintro e w2 ⟨rfl, hb2⟩
      obtain ⟨We, hWe⟩ : ∃ We, w2.alloc (.cells #[.int .i64 0, .slice none 0 0, .slice none 0 0] 47) = We := ⟨_, rfl⟩
      have hbe : Below w2.heap.size w2 We := by rw [← hWe]; exact balloc (bnil w2) _
      have HV : Hid (We.heap[w2.heap.size]? = some (.cells #[.int .i64 0, .slice none 0 0, .slice none 0 0] 47)) := by show _ = _; rw [← hWe]; exact heap_alloc_new w2 _
      have HVS : Hid (We.heap.size = w2.heap.size + 1) := by show _ = _; rw [← hWe]; simp
      have hb12 := hb2.trans (hbe.mono hb2.size)
      have HC2 := Lib.hid (bstep HC1.out hb12)
      have HB2 := Lib.hid (bstep HB1.out hb12)
      have HLV : Hid (Wb.heap.size ≤ w2.heap.size) := Nat.le_trans HC1.out.size hb2.size
      have HWE := Lib.hid hWe
      clear hWe hbe hb2 hb12
      go_wp2_with fail
      rw [HWE.out]
      refine (rawBad_any _ _ _ _).mono ?_; rintro e w3 ⟨rfl, hb3⟩
      have HC3 := Lib.hid (bstep HC2.out hb3)
      have HB3 := Lib.hid (bstep HB2.out hb3)
      have hv3 := (hb3.block w2.heap.size (by have := HVS.out; omega)).trans HV.out
      have HV3 := Lib.hid hv3
      have HL3 : Hid (w2.heap.size < w3.heap.size) := Nat.lt_of_lt_of_le (by have := HVS.out; omega) hb3.size
      clear hb3 hv3
      have x0 := cpb HC3.out HX.out.1
      have x1 := cpb HC3.out HX.out.2.1
      have x2 := cpb HC3.out HX.out.2.2.1
      have x3 := cpb HC3.out HX.out.2.2.2.1
      have x4 := cpb HC3.out HX.out.2.2.2.2.1
      have x5 := cpb HC3.out HX.out.2.2.2.2.2.1
      have x6 := cpb HC3.out HX.out.2.2.2.2.2.2
      go_wp2_with fail
      refine (refcheck_er k p aL aC aR nL cL nC cC nR cR L C Q _ (HM.out.up HB3.out) xa xn HE.out).mono ?_; rintro e w4 ⟨b1, b2, rfl, ⟨l1, l2⟩, hw4, hb4⟩
      have hl3 := HC3.out.size
      have hsz := HSZ.out
      have hlv := HL3.out
      have hv4 := (hb4.block w2.heap.size HL3.out).trans HV3.out
      obtain ⟨⟨v0, v1, v2⟩, h0, h1, h2⟩ := e_cells hv4
      obtain ⟨w5, e5, ⟨r0, r1, r2⟩, hk5, hs5, hbl5⟩ := set3 hv4 (.int .i64 xn) (.slice (some ⟨b1, 0, none⟩) 1 1) (.slice (some ⟨b2, 0, none⟩) 1 1)
      have HC5 := Lib.hid (hbl5 Wb Wb.heap.size HLV.out (bstep HC3.out hb4))
      have HB5 := Lib.hid (HBX.out.trans (HC5.out.mono HBX.out.size))
      have HE5 := Lib.hid e5
      have HL5 : Hid (w2.heap.size < w5.heap.size) := by show _ < _; rw [hs5]; exact Nat.lt_of_lt_of_le HL3.out hb4.size
      have HU5 := Lib.hid (And.intro r0 (And.intro r1 r2))
      have hw5 := (wc_want hw4).other hk5 hs5 (fr_some (by omega)) (fr_some (by omega))
      have HW5 := Lib.hid hw5
      have FR1 : Hid (Fr (W.heap.size + 4) (some ⟨b1, 0, none⟩)) := fr_some (by omega)
      have FR2 : Hid (Fr (W.heap.size + 4) (some ⟨b2, 0, none⟩)) := fr_some (by omega)
      clear hw4 hw5 l1 l2 hl3 hsz hlv
      clear e5 hv4 hb4
      clear x0 x1 x2 x3 x4 x5 x6
      go_wp2_with fail
      rw [HE5.out]
      clear v0 v1 v2 h0 h1 h2 r0 r1 r2 hk5 hs5 hbl5
      have y0 := HU5.out.1
      have y1 := HU5.out.2.1
      have y2 := HU5.out.2.2
      go_wp2_with fail
      refine (rawBad_any _ _ _ _).mono ?_; rintro e w8 ⟨rfl, hb8⟩
      have HC8 := Lib.hid (bstep HC5.out hb8)
      have HW8 := Lib.hid (HW5.out.up hb8)
      clear y0 y1 y2
      have y0 := cpb hb8 HU5.out.1
      have y1 := cpb hb8 HU5.out.2.1
      have y2 := cpb hb8 HU5.out.2.2
      clear hb8
      have hz4 := (HC8.out.block (W.heap.size + 1 + 1) (by have := HSZ.out; omega)).trans HZ4.out
      have hz5 := (HC8.out.block (W.heap.size + 1 + 1 + 1) (by have := HSZ.out; omega)).trans HZ5.out
      have HZ48 := Lib.hid hz4
      have HZ58 := Lib.hid hz5
      obtain ⟨⟨c0, c1', c2', c3'⟩, f0, f1, f2, f3⟩ := z_cells hz4
      obtain ⟨⟨d0, d1', d2'⟩, g0, g1, g2⟩ := e_cells hz5
      clear hz4 hz5
      have hgt : W.heap.size + 1 + 1 + 1 < w2.heap.size := by have := HSZ.out; have := HLV.out; omega
      have hn1 : ¬ w2.heap.size = W.heap.size + 1 + 1 := by omega
      have hn2 : ¬ w2.heap.size = W.heap.size + 1 + 1 + 1 := by omega
      have hn3 : ¬ W.heap.size + 1 + 1 = w2.heap.size := by omega
      have hn4 : ¬ W.heap.size + 1 + 1 + 1 = w2.heap.size := by omega
      go_wp2
      go_region
      all_goals first
      | (obtain ⟨wa, ea, ⟨r0, r1, r2, r3⟩, hka, hsa, hbla⟩ := set4 HZ48.out (.int .i64 (0)) (.slice none 0 0) (.slice none 0 0) (.slice none 0 0)
         rw [ea]
         obtain ⟨w9, e9, ⟨t0, t1, t2⟩, hk9, hs9, hbl9⟩ := set3 ((hka _ hne).trans HZ58.out) (.int .i64 xn) (.slice (some ⟨b1, 0, none⟩) 1 1) (.slice (some ⟨b2, 0, none⟩) 1 1)
         rw [e9]
         have q0 := cell_blk hk9 r0 hne.symm
         have q1 := cell_blk hk9 r1 hne.symm
         have q2 := cell_blk hk9 r2 hne.symm
         have q3 := cell_blk hk9 r3 hne.symm
         go_wp2
         refine bodyPost_ret (v := .tuple #[.agg #[.int .i64 (0), .slice none 0 0, .slice none 0 0, .slice none 0 0], .agg #[.int .i64 xn, .slice (some ⟨b1, 0, none⟩) 1 1, .slice (some ⟨b2, 0, none⟩) 1 1]]) (by simp [results, Tryd.results29, go_sem, q0, q1, q2, q3, t0, t1, t2]) rfl ?_
         have hbf := hbl9 W W.heap.size (by omega) (hbla W W.heap.size (by omega) (HBX.out.trans (HC8.out.mono HBX.out.size)))
         have hw9 := (HW8.out.other hka hsa (FR1.out.base (by omega)) (FR2.out.base (by omega))).other hk9 hs9 (FR1.out.base (by omega)) (FR2.out.base (by omega))
         have hO : rstepO k r tb p L C Q = (0, [], [], []) := by unfold rstepO; rw [if_neg (by rw [HD.out]; simp)]
         rw [hO, HD.out]
         exact ⟨none, 0, 0, none, 0, 0, none, 0, 0, _, _, _, _, _, _, _, rfl, RK.nil, RK.nil, RK.nil, hw9.up (Below.drew (bnil w9)), Below.drew hbf⟩)
      | (obtain ⟨wa, ea, ⟨t0, t1, t2⟩, hka, hsa, hbla⟩ := set3 HZ58.out (.int .i64 xn) (.slice (some ⟨b1, 0, none⟩) 1 1) (.slice (some ⟨b2, 0, none⟩) 1 1)
         rw [ea]
         obtain ⟨w9, e9, ⟨q0, q1, q2, q3⟩, hk9, hs9, hbl9⟩ := set4 ((hka _ hne.symm).trans HZ48.out) (.int .i64 (0)) (.slice none 0 0) (.slice none 0 0) (.slice none 0 0)
         rw [e9]
         have u0 := cell_blk hk9 t0 hne
         have u1 := cell_blk hk9 t1 hne
         have u2 := cell_blk hk9 t2 hne
         go_wp2
         refine bodyPost_ret (v := .tuple #[.agg #[.int .i64 (0), .slice none 0 0, .slice none 0 0, .slice none 0 0], .agg #[.int .i64 xn, .slice (some ⟨b1, 0, none⟩) 1 1, .slice (some ⟨b2, 0, none⟩) 1 1]]) (by simp [results, Tryd.results29, go_sem, q0, q1, q2, q3, u0, u1, u2]) rfl ?_
         have hbf := hbl9 W W.heap.size (by omega) (hbla W W.heap.size (by omega) (HBX.out.trans (HC8.out.mono HBX.out.size)))
         have hw9 := (HW8.out.other hka hsa (FR1.out.base (by omega)) (FR2.out.base (by omega))).other hk9 hs9 (FR1.out.base (by omega)) (FR2.out.base (by omega))
         have hO : rstepO k r tb p L C Q = (0, [], [], []) := by unfold rstepO; rw [if_neg (by rw [HD.out]; simp)]
         rw [hO, HD.out]
         exact ⟨none, 0, 0, none, 0, 0, none, 0, 0, _, _, _, _, _, _, _, rfl, RK.nil, RK.nil, RK.nil, hw9.up (Below.drew (bnil w9)), Below.drew hbf⟩)
    | none =>
      have HXR := Lib.hid hx
      have HLC := Lib.hid HM.out.c.rk.len
      have hall : rstepD k r tb p L C Q = if p - r < -4096 then some ([(opRow, 1)], 3) else if 16384 < (nC : Int) + 2 * r then some ([(opRow, 4)], 4) else none := by unfold rstepD; rw [hr, hx, HLC.out]
      obtain ⟨k0, r0', ek, er, hI⟩ := ruleErr_none hr
      obtain ⟨k9, ek9, hRow⟩ := rowErr_none hx
      have hk9e : k0 = k9 := by omega
      have hr3 : r ≤ 3 ∧ 0 ≤ r := by have := hI.r3; omega
      have hr3a := hr3.1
      have hr3b := hr3.2
      have hpp1 := hRow.p1
      have hpp2 := hRow.p2
      have HI0 := Lib.hid (And.intro ek (And.intro er (And.intro hk9e (And.intro hI hRow))))
      have HALL := Lib.hid hall
      clear hall hr hx ek er ek9 hI hRow hr3 hk9e
      by_cases hat : p - r < -4096
      · have hd := HALL.out
        rw [if_pos hat] at hd
        have HD := Lib.hid hd
        clear hd HALL
        go_enter Tryd.func29, Tryd.ntmps29
        go_wp2_with fail
        rw [HWB.out]
        refine (refRule_ok0 k r aT nT cT tb _ (HT.out.up HBX.out) hm HR.out).mono ?_; rintro e w1 ⟨rfl, hb1⟩
        have HC1 := Lib.hid hb1
        have HB1 := Lib.hid (HBX.out.trans (hb1.mono HBX.out.size))
        clear hb1
        go_wp2_with fail
        refine (refUnder_none0 _ _ _).mono ?_; rintro e w2 ⟨rfl, hb2⟩
        obtain ⟨We, hWe⟩ : ∃ We, w2.alloc (.cells #[.int .i64 0, .slice none 0 0, .slice none 0 0] 47) = We := ⟨_, rfl⟩
        have hbe : Below w2.heap.size w2 We := by rw [← hWe]; exact balloc (bnil w2) _
        have HV : Hid (We.heap[w2.heap.size]? = some (.cells #[.int .i64 0, .slice none 0 0, .slice none 0 0] 47)) := by show _ = _; rw [← hWe]; exact heap_alloc_new w2 _
        have HVS : Hid (We.heap.size = w2.heap.size + 1) := by show _ = _; rw [← hWe]; simp
        have hb12 := hb2.trans (hbe.mono hb2.size)
        have HC2 := Lib.hid (bstep HC1.out hb12)
        have HB2 := Lib.hid (bstep HB1.out hb12)
        have HLV : Hid (Wb.heap.size ≤ w2.heap.size) := Nat.le_trans HC1.out.size hb2.size
        have HWE := Lib.hid hWe
        clear hWe hbe hb2 hb12
        go_wp2_with fail
        rw [HWE.out]
        refine (rawBad_any _ _ _ _).mono ?_; rintro e w3 ⟨rfl, hb3⟩
        have HC3 := Lib.hid (bstep HC2.out hb3)
        have HB3 := Lib.hid (bstep HB2.out hb3)
        have hv3 := (hb3.block w2.heap.size (by have := HVS.out; omega)).trans HV.out
        have HV3 := Lib.hid hv3
        have HL3 : Hid (w2.heap.size < w3.heap.size) := Nat.lt_of_lt_of_le (by have := HVS.out; omega) hb3.size
        clear hb3 hv3
        have x0 := cpb HC3.out HX.out.1
        have x1 := cpb HC3.out HX.out.2.1
        have x2 := cpb HC3.out HX.out.2.2.1
        have x3 := cpb HC3.out HX.out.2.2.2.1
        have x4 := cpb HC3.out HX.out.2.2.2.2.1
        have x5 := cpb HC3.out HX.out.2.2.2.2.2.1
        have x6 := cpb HC3.out HX.out.2.2.2.2.2.2
        go_wp2_with fail
        refine (refcheck_ok0 k p aL aC aR nL cL nC cC nR cR L C Q _ (HM.out.up HB3.out) HXR.out).mono ?_; rintro e w4 ⟨rfl, hb4⟩
        have hv4 := (hb4.block w2.heap.size HL3.out).trans HV3.out
        obtain ⟨⟨v0, v1, v2⟩, h0, h1, h2⟩ := e_cells hv4
        obtain ⟨w5, e5, ⟨r0, r1, r2⟩, hk5, hs5, hbl5⟩ := set3 hv4 (.int .i64 0) (.slice none 0 0) (.slice none 0 0)
        have HC5 := Lib.hid (hbl5 Wb Wb.heap.size HLV.out (bstep HC3.out hb4))
        have HB5 := Lib.hid (HBX.out.trans (HC5.out.mono HBX.out.size))
        have HE5 := Lib.hid e5
        have HL5 : Hid (w2.heap.size < w5.heap.size) := by show _ < _; rw [hs5]; exact Nat.lt_of_lt_of_le HL3.out hb4.size
        have HU5 := Lib.hid (And.intro r0 (And.intro r1 r2))
        clear e5 hv4 hb4
        clear x0 x1 x2 x3 x4 x5 x6
        go_wp2_with fail
        rw [HE5.out]
        clear v0 v1 v2 h0 h1 h2 r0 r1 r2 hk5 hs5 hbl5
        have y0 := HU5.out.1
        have y1 := HU5.out.2.1
        have y2 := HU5.out.2.2
        go_wp2_with fail
        refine (rawBad_any _ _ _ _).mono ?_; rintro e w6 ⟨rfl, hb6⟩
        have HC6 := Lib.hid (bstep HC5.out hb6)
        have HB6 := Lib.hid (HBX.out.trans (HC6.out.mono HBX.out.size))
        clear hb6 y0 y1 y2
        have x0 := cpb HC6.out HX.out.1
        have x1 := cpb HC6.out HX.out.2.1
        have x2 := cpb HC6.out HX.out.2.2.1
        have x3 := cpb HC6.out HX.out.2.2.2.1
        have x4 := cpb HC6.out HX.out.2.2.2.2.1
        have x5 := cpb HC6.out HX.out.2.2.2.2.2.1
        have x6 := cpb HC6.out HX.out.2.2.2.2.2.2
        go_wp2_with fail
        refine (rawNew_fresh _ _ _ _ rfl).mono ?_; rintro e w8 ⟨b1, b2, rfl, lb1, lb2, hw8, hb8⟩
        have HC8 := Lib.hid (bstep HC6.out hb8)
        have hl6 := HC6.out.size
        have hsz := HSZ.out
        have HW8 := Lib.hid (wc_want hw8)
        have FR1 : Hid (Fr (W.heap.size + 4) (some ⟨b1, 0, none⟩)) := fr_some (by omega)
        have FR2 : Hid (Fr (W.heap.size + 4) (some ⟨b2, 0, none⟩)) := fr_some (by omega)
        clear hb8 hl6 hsz hw8 lb1 lb2
        clear x0 x1 x2 x3 x4 x5 x6
        have hz4 := (HC8.out.block (W.heap.size + 1 + 1) (by have := HSZ.out; omega)).trans HZ4.out
        have hz5 := (HC8.out.block (W.heap.size + 1 + 1 + 1) (by have := HSZ.out; omega)).trans HZ5.out
        have HZ48 := Lib.hid hz4
        have HZ58 := Lib.hid hz5
        obtain ⟨⟨c0, c1', c2', c3'⟩, f0, f1, f2, f3⟩ := z_cells hz4
        obtain ⟨⟨d0, d1', d2'⟩, g0, g1, g2⟩ := e_cells hz5
        clear hz4 hz5
        go_wp2
        obtain ⟨wa, ea, ⟨r0, r1, r2, r3⟩, hka, hsa, hbla⟩ := set4 HZ48.out (.int .i64 (0)) (.slice none 0 0) (.slice none 0 0) (.slice none 0 0)
        rw [ea]
        obtain ⟨w9, e9, ⟨t0, t1, t2⟩, hk9, hs9, hbl9⟩ := set3 ((hka _ hne).trans HZ58.out) (.int .i64 3) (.slice (some ⟨b1, 0, none⟩) 1 1) (.slice (some ⟨b2, 0, none⟩) 1 1)
        rw [e9]
        have q0 := cell_blk hk9 r0 hne.symm
        have q1 := cell_blk hk9 r1 hne.symm
        have q2 := cell_blk hk9 r2 hne.symm
        have q3 := cell_blk hk9 r3 hne.symm
        refine bodyPost_ret (v := .tuple #[.agg #[.int .i64 (0), .slice none 0 0, .slice none 0 0, .slice none 0 0], .agg #[.int .i64 3, .slice (some ⟨b1, 0, none⟩) 1 1, .slice (some ⟨b2, 0, none⟩) 1 1]]) (by simp [results, Tryd.results29, go_sem, q0, q1, q2, q3, t0, t1, t2]) rfl ?_
        have hbf := hbl9 W W.heap.size (by omega) (hbla W W.heap.size (by omega) (HBX.out.trans (HC8.out.mono HBX.out.size)))
        have hw9 := (HW8.out.other hka hsa (FR1.out.base (by omega)) (FR2.out.base (by omega))).other hk9 hs9 (FR1.out.base (by omega)) (FR2.out.base (by omega))
        have hO : rstepO k r tb p L C Q = (0, [], [], []) := by unfold rstepO; rw [if_neg (by rw [HD.out]; simp)]
        rw [hO, HD.out]
        exact ⟨none, 0, 0, none, 0, 0, none, 0, 0, _, _, _, _, _, _, _, rfl, RK.nil, RK.nil, RK.nil, hw9, hbf⟩
      by_cases hbg : 16384 < (nC : Int) + 2 * r
      · have hd := HALL.out
        rw [if_neg hat, if_pos hbg] at hd
        have HD := Lib.hid hd
        have hat2 : -4096 ≤ p - r := by omega
        clear hd HALL hat
        go_enter Tryd.func29, Tryd.ntmps29
        go_wp2_with fail
        rw [HWB.out]
        refine (refRule_ok0 k r aT nT cT tb _ (HT.out.up HBX.out) hm HR.out).mono ?_; rintro e w1 ⟨rfl, hb1⟩
        have HC1 := Lib.hid hb1
        have HB1 := Lib.hid (HBX.out.trans (hb1.mono HBX.out.size))
        clear hb1
        go_wp2_with fail
        refine (refUnder_none0 _ _ _).mono ?_; rintro e w2 ⟨rfl, hb2⟩
        obtain ⟨We, hWe⟩ : ∃ We, w2.alloc (.cells #[.int .i64 0, .slice none 0 0, .slice none 0 0] 47) = We := ⟨_, rfl⟩
        have hbe : Below w2.heap.size w2 We := by rw [← hWe]; exact balloc (bnil w2) _
        have HV : Hid (We.heap[w2.heap.size]? = some (.cells #[.int .i64 0, .slice none 0 0, .slice none 0 0] 47)) := by show _ = _; rw [← hWe]; exact heap_alloc_new w2 _
        have HVS : Hid (We.heap.size = w2.heap.size + 1) := by show _ = _; rw [← hWe]; simp
        have hb12 := hb2.trans (hbe.mono hb2.size)
        have HC2 := Lib.hid (bstep HC1.out hb12)
        have HB2 := Lib.hid (bstep HB1.out hb12)
        have HLV : Hid (Wb.heap.size ≤ w2.heap.size) := Nat.le_trans HC1.out.size hb2.size
        have HWE := Lib.hid hWe
        clear hWe hbe hb2 hb12
        go_wp2_with fail
        rw [HWE.out]
        refine (rawBad_any _ _ _ _).mono ?_; rintro e w3 ⟨rfl, hb3⟩
        have HC3 := Lib.hid (bstep HC2.out hb3)
        have HB3 := Lib.hid (bstep HB2.out hb3)
        have hv3 := (hb3.block w2.heap.size (by have := HVS.out; omega)).trans HV.out
        have HV3 := Lib.hid hv3
        have HL3 : Hid (w2.heap.size < w3.heap.size) := Nat.lt_of_lt_of_le (by have := HVS.out; omega) hb3.size
        clear hb3 hv3
        have x0 := cpb HC3.out HX.out.1
        have x1 := cpb HC3.out HX.out.2.1
        have x2 := cpb HC3.out HX.out.2.2.1
        have x3 := cpb HC3.out HX.out.2.2.2.1
        have x4 := cpb HC3.out HX.out.2.2.2.2.1
        have x5 := cpb HC3.out HX.out.2.2.2.2.2.1
        have x6 := cpb HC3.out HX.out.2.2.2.2.2.2
        go_wp2_with fail
        refine (refcheck_ok0 k p aL aC aR nL cL nC cC nR cR L C Q _ (HM.out.up HB3.out) HXR.out).mono ?_; rintro e w4 ⟨rfl, hb4⟩
        have hv4 := (hb4.block w2.heap.size HL3.out).trans HV3.out
        obtain ⟨⟨v0, v1, v2⟩, h0, h1, h2⟩ := e_cells hv4
        obtain ⟨w5, e5, ⟨r0, r1, r2⟩, hk5, hs5, hbl5⟩ := set3 hv4 (.int .i64 0) (.slice none 0 0) (.slice none 0 0)
        have HC5 := Lib.hid (hbl5 Wb Wb.heap.size HLV.out (bstep HC3.out hb4))
        have HB5 := Lib.hid (HBX.out.trans (HC5.out.mono HBX.out.size))
        have HE5 := Lib.hid e5
        have HL5 : Hid (w2.heap.size < w5.heap.size) := by show _ < _; rw [hs5]; exact Nat.lt_of_lt_of_le HL3.out hb4.size
        have HU5 := Lib.hid (And.intro r0 (And.intro r1 r2))
        clear e5 hv4 hb4
        clear x0 x1 x2 x3 x4 x5 x6
        go_wp2_with fail
        rw [HE5.out]
        clear v0 v1 v2 h0 h1 h2 r0 r1 r2 hk5 hs5 hbl5
        have y0 := HU5.out.1
        have y1 := HU5.out.2.1
        have y2 := HU5.out.2.2
        go_wp2_with fail
        refine (rawBad_any _ _ _ _).mono ?_; rintro e w6 ⟨rfl, hb6⟩
        have HC6 := Lib.hid (bstep HC5.out hb6)
        have HB6 := Lib.hid (HBX.out.trans (HC6.out.mono HBX.out.size))
        clear hb6 y0 y1 y2
        have x0 := cpb HC6.out HX.out.1
        have x1 := cpb HC6.out HX.out.2.1
        have x2 := cpb HC6.out HX.out.2.2.1
        have x3 := cpb HC6.out HX.out.2.2.2.1
        have x4 := cpb HC6.out HX.out.2.2.2.2.1
        have x5 := cpb HC6.out HX.out.2.2.2.2.2.1
        have x6 := cpb HC6.out HX.out.2.2.2.2.2.2
        go_wp2_with fail
        refine (rawNew_fresh _ _ _ _ rfl).mono ?_; rintro e w8 ⟨b1, b2, rfl, lb1, lb2, hw8, hb8⟩
        have HC8 := Lib.hid (bstep HC6.out hb8)
        have hl6 := HC6.out.size
        have hsz := HSZ.out
        have HW8 := Lib.hid (wc_want hw8)
        have FR1 : Hid (Fr (W.heap.size + 4) (some ⟨b1, 0, none⟩)) := fr_some (by omega)
        have FR2 : Hid (Fr (W.heap.size + 4) (some ⟨b2, 0, none⟩)) := fr_some (by omega)
        clear hb8 hl6 hsz hw8 lb1 lb2
        clear x0 x1 x2 x3 x4 x5 x6
        have hz4 := (HC8.out.block (W.heap.size + 1 + 1) (by have := HSZ.out; omega)).trans HZ4.out
        have hz5 := (HC8.out.block (W.heap.size + 1 + 1 + 1) (by have := HSZ.out; omega)).trans HZ5.out
        have HZ48 := Lib.hid hz4
        have HZ58 := Lib.hid hz5
        obtain ⟨⟨c0, c1', c2', c3'⟩, f0, f1, f2, f3⟩ := z_cells hz4
        obtain ⟨⟨d0, d1', d2'⟩, g0, g1, g2⟩ := e_cells hz5
        clear hz4 hz5
        go_wp2
        obtain ⟨wa, ea, ⟨r0, r1, r2, r3⟩, hka, hsa, hbla⟩ := set4 HZ48.out (.int .i64 (0)) (.slice none 0 0) (.slice none 0 0) (.slice none 0 0)
        rw [ea]
        obtain ⟨w9, e9, ⟨t0, t1, t2⟩, hk9, hs9, hbl9⟩ := set3 ((hka _ hne).trans HZ58.out) (.int .i64 4) (.slice (some ⟨b1, 0, none⟩) 1 1) (.slice (some ⟨b2, 0, none⟩) 1 1)
        rw [e9]
        have q0 := cell_blk hk9 r0 hne.symm
        have q1 := cell_blk hk9 r1 hne.symm
        have q2 := cell_blk hk9 r2 hne.symm
        have q3 := cell_blk hk9 r3 hne.symm
        refine bodyPost_ret (v := .tuple #[.agg #[.int .i64 (0), .slice none 0 0, .slice none 0 0, .slice none 0 0], .agg #[.int .i64 4, .slice (some ⟨b1, 0, none⟩) 1 1, .slice (some ⟨b2, 0, none⟩) 1 1]]) (by simp [results, Tryd.results29, go_sem, q0, q1, q2, q3, t0, t1, t2]) rfl ?_
        have hbf := hbl9 W W.heap.size (by omega) (hbla W W.heap.size (by omega) (HBX.out.trans (HC8.out.mono HBX.out.size)))
        have hw9 := (HW8.out.other hka hsa (FR1.out.base (by omega)) (FR2.out.base (by omega))).other hk9 hs9 (FR1.out.base (by omega)) (FR2.out.base (by omega))
        have hO : rstepO k r tb p L C Q = (0, [], [], []) := by unfold rstepO; rw [if_neg (by rw [HD.out]; simp)]
        rw [hO, HD.out]
        exact ⟨none, 0, 0, none, 0, 0, none, 0, 0, _, _, _, _, _, _, _, rfl, RK.nil, RK.nil, RK.nil, hw9, hbf⟩
      have hd := HALL.out
      rw [if_neg hat, if_neg hbg] at hd
      have HD := Lib.hid hd
      have hat2 : -4096 ≤ p - r := by omega
      have hbg2 : (nC : Int) + 2 * r ≤ 16384 := by omega
      clear hd HALL hat hbg
      go_enter Tryd.func29, Tryd.ntmps29
      go_wp2_with fail
      rw [HWB.out]
      refine (refRule_ok0 k r aT nT cT tb _ (HT.out.up HBX.out) hm HR.out).mono ?_; rintro e w1 ⟨rfl, hb1⟩
      have HC1 := Lib.hid hb1
      have HB1 := Lib.hid (HBX.out.trans (hb1.mono HBX.out.size))
      clear hb1
      go_wp2_with fail
      refine (refUnder_none0 _ _ _).mono ?_; rintro e w2 ⟨rfl, hb2⟩
      obtain ⟨We, hWe⟩ : ∃ We, w2.alloc (.cells #[.int .i64 0, .slice none 0 0, .slice none 0 0] 47) = We := ⟨_, rfl⟩
      have hbe : Below w2.heap.size w2 We := by rw [← hWe]; exact balloc (bnil w2) _
      have HV : Hid (We.heap[w2.heap.size]? = some (.cells #[.int .i64 0, .slice none 0 0, .slice none 0 0] 47)) := by show _ = _; rw [← hWe]; exact heap_alloc_new w2 _
      have HVS : Hid (We.heap.size = w2.heap.size + 1) := by show _ = _; rw [← hWe]; simp
      have hb12 := hb2.trans (hbe.mono hb2.size)
      have HC2 := Lib.hid (bstep HC1.out hb12)
      have HB2 := Lib.hid (bstep HB1.out hb12)
      have HLV : Hid (Wb.heap.size ≤ w2.heap.size) := Nat.le_trans HC1.out.size hb2.size
      have HWE := Lib.hid hWe
      clear hWe hbe hb2 hb12
      go_wp2_with fail
      rw [HWE.out]
      refine (rawBad_any _ _ _ _).mono ?_; rintro e w3 ⟨rfl, hb3⟩
      have HC3 := Lib.hid (bstep HC2.out hb3)
      have HB3 := Lib.hid (bstep HB2.out hb3)
      have hv3 := (hb3.block w2.heap.size (by have := HVS.out; omega)).trans HV.out
      have HV3 := Lib.hid hv3
      have HL3 : Hid (w2.heap.size < w3.heap.size) := Nat.lt_of_lt_of_le (by have := HVS.out; omega) hb3.size
      clear hb3 hv3
      have x0 := cpb HC3.out HX.out.1
      have x1 := cpb HC3.out HX.out.2.1
      have x2 := cpb HC3.out HX.out.2.2.1
      have x3 := cpb HC3.out HX.out.2.2.2.1
      have x4 := cpb HC3.out HX.out.2.2.2.2.1
      have x5 := cpb HC3.out HX.out.2.2.2.2.2.1
      have x6 := cpb HC3.out HX.out.2.2.2.2.2.2
      go_wp2_with fail
      refine (refcheck_ok0 k p aL aC aR nL cL nC cC nR cR L C Q _ (HM.out.up HB3.out) HXR.out).mono ?_; rintro e w4 ⟨rfl, hb4⟩
      have hv4 := (hb4.block w2.heap.size HL3.out).trans HV3.out
      obtain ⟨⟨v0, v1, v2⟩, h0, h1, h2⟩ := e_cells hv4
      obtain ⟨w5, e5, ⟨r0, r1, r2⟩, hk5, hs5, hbl5⟩ := set3 hv4 (.int .i64 0) (.slice none 0 0) (.slice none 0 0)
      have HC5 := Lib.hid (hbl5 Wb Wb.heap.size HLV.out (bstep HC3.out hb4))
      have HB5 := Lib.hid (HBX.out.trans (HC5.out.mono HBX.out.size))
      have HE5 := Lib.hid e5
      have HL5 : Hid (w2.heap.size < w5.heap.size) := by show _ < _; rw [hs5]; exact Nat.lt_of_lt_of_le HL3.out hb4.size
      have HU5 := Lib.hid (And.intro r0 (And.intro r1 r2))
      clear e5 hv4 hb4
      clear x0 x1 x2 x3 x4 x5 x6
      go_wp2_with fail
      rw [HE5.out]
      clear v0 v1 v2 h0 h1 h2 r0 r1 r2 hk5 hs5 hbl5
      have y0 := HU5.out.1
      have y1 := HU5.out.2.1
      have y2 := HU5.out.2.2
      go_wp2_with fail
      refine (rawBad_any _ _ _ _).mono ?_; rintro e w6 ⟨rfl, hb6⟩
      have HC6 := Lib.hid (bstep HC5.out hb6)
      have HB6 := Lib.hid (HBX.out.trans (HC6.out.mono HBX.out.size))
      clear hb6 y0 y1 y2
      have x0 := cpb HC6.out HX.out.1
      have x1 := cpb HC6.out HX.out.2.1
      have x2 := cpb HC6.out HX.out.2.2.1
      have x3 := cpb HC6.out HX.out.2.2.2.1
      have x4 := cpb HC6.out HX.out.2.2.2.2.1
      have x5 := cpb HC6.out HX.out.2.2.2.2.2.1
      have x6 := cpb HC6.out HX.out.2.2.2.2.2.2
      obtain ⟨ek, er, ek9, hI, hRow⟩ := HI0.out
      subst ek9
      have hcall : Calls Tryd.prog 56 #[ruleV k r aT nT cT, rowV p aL nL cL aC nC cC aR nR cR] w6 fun e w' => ∃ a1 n1 c1 a2 n2 c2 a3 n3 c3, e = .returned (rowV (p - r) a1 n1 c1 a2 n2 c2 a3 n3 c3) ∧ OwI w' w6.heap.size a1 n1 c1 (rstepO k r tb p L C Q).2.1 ∧ OwI w' w6.heap.size a2 n2 c2 (rstepO k r tb p L C Q).2.2.1 ∧ OwI w' w6.heap.size a3 n3 c3 (rstepO k r tb p L C Q).2.2.2 ∧ Below w6.heap.size w6 w' := by
        have hO : rstepO k r tb p L C Q = (p - r, valsF (img k.toNat r.toNat tb (cellF p L C Q)) (p - r - (L.length : Int)) L.length, valsF (img k.toNat r.toNat tb (cellF p L C Q)) (p - r) (C.length + 2 * r.toNat), valsF (img k.toNat r.toNat tb (cellF p L C Q)) (p - r + ((C.length + 2 * r.toNat : Nat) : Int)) Q.length) := by
          unfold rstepO; rw [if_pos HD.out]
        rw [hO]
        have eL := HM.out.l.rk.len
        have eC := HM.out.c.rk.len
        have eR := HM.out.r.rk.len
        have := refRowImage k0 r0' aT nT cT tb p aL aC aR nL cL nC cC nR cR L C Q w6 (HT.out.up HB6.out) hI (HM.out.up HB6.out) hRow _ rfl
        subst ek er
        simp only [Int.toNat_natCast]
        rw [← eL, ← eC, ← eR]
        refine this.mono ?_
        rintro e w' ⟨a1, c1, a2, c2, a3, c3, rfl, h1, h2, h3, hb⟩
        exact ⟨_, _, _, _, _, _, _, _, _, rfl, h1, h2, h3, hb⟩
      have HCALL := Lib.hid hcall
      clear hcall hI hRow ek er
      go_wp2_with fail
      refine HCALL.out.mono ?_; rintro e w8 ⟨a1, n1, c1, a2, n2, c2, a3, n3, c3, rfl, o1, o2, o3, hb8⟩
      have HC8 := Lib.hid (bstep HC6.out hb8)
      have hl6 := HC6.out.size
      have hsz := HSZ.out
      have HO1 := Lib.hid o1
      have HO2 := Lib.hid o2
      have HO3 := Lib.hid o3
      have HL6 : Hid (W.heap.size + 4 ≤ w6.heap.size) := by show _ ≤ _; omega
      clear hb8 o1 o2 o3 hl6 hsz
      clear x0 x1 x2 x3 x4 x5 x6
      have hz4 := (HC8.out.block (W.heap.size + 1 + 1) (by have := HSZ.out; omega)).trans HZ4.out
      have hz5 := (HC8.out.block (W.heap.size + 1 + 1 + 1) (by have := HSZ.out; omega)).trans HZ5.out
      have HZ48 := Lib.hid hz4
      have HZ58 := Lib.hid hz5
      obtain ⟨⟨c0, c1', c2', c3'⟩, f0, f1, f2, f3⟩ := z_cells hz4
      obtain ⟨⟨d0, d1', d2'⟩, g0, g1, g2⟩ := e_cells hz5
      clear hz4 hz5
      go_wp2
      obtain ⟨wa, ea, ⟨r0, r1, r2, r3⟩, hka, hsa, hbla⟩ := set4 HZ48.out (.int .i64 (p - r)) (.slice a1 n1 c1) (.slice a2 n2 c2) (.slice a3 n3 c3)
      rw [ea]
      obtain ⟨w9, e9, ⟨t0, t1, t2⟩, hk9, hs9, hbl9⟩ := set3 ((hka _ hne).trans HZ58.out) (.int .i64 0) (.slice none 0 0) (.slice none 0 0)
      rw [e9]
      have q0 := cell_blk hk9 r0 hne.symm
      have q1 := cell_blk hk9 r1 hne.symm
      have q2 := cell_blk hk9 r2 hne.symm
      have q3 := cell_blk hk9 r3 hne.symm
      refine bodyPost_ret (v := .tuple #[.agg #[.int .i64 (p - r), .slice a1 n1 c1, .slice a2 n2 c2, .slice a3 n3 c3], .agg #[.int .i64 0, .slice none 0 0, .slice none 0 0]]) (by simp [results, Tryd.results29, go_sem, q0, q1, q2, q3, t0, t1, t2]) rfl ?_
      have hbf := hbl9 W W.heap.size (by omega) (hbla W W.heap.size (by omega) (HBX.out.trans (HC8.out.mono HBX.out.size)))
      have hO1 : (rstepO k r tb p L C Q).1 = p - r := by unfold rstepO; rw [if_pos HD.out]
      have hl6 := HL6.out
      have key : ∀ {a : Option Addr} {n c : Nat} {l : List Int}, OwI w8 w6.heap.size a n c l → RK .i64 w9 a n l := fun h => ((h.heap fun b hb => hka b (by omega)).heap fun b hb => hk9 b (by omega)).rk
      rw [HD.out]
      exact ⟨a1, n1, c1, a2, n2, c2, a3, n3, c3, _, _, _, _, _, _, _, by rw [hO1], key HO1.out, key HO2.out, key HO3.out, wc_none w9, hbf⟩
end Go.Proofs.YtkgalgmjdfhhbaaDoor
