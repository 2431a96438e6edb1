/- Images of rows again and again; edentop.steps. -/
import Derived.Test.YtnmegpplfbkpcaaDoorFpwD
import Derived.Test.YtnmegpplfbkpcaaDoorEcaA
import Derived.Test.YtnmegpplfbkpcaaDoorRowD
import Derived.Test.YtnmegpplfbkpcaaDoorRowC
import Derived.Test.YtnmegpplfbkpcaaDoorRngD
import Derived.Test.YtnmegpplfbkpcaaDoorRngW
import Derived.Test.YtnmegpplfbkpcaaDoorInts
import Derived.Test.YtnmegpplfbkpcaaDoorTrk
namespace Go.Proofs.YtnmegpplfbkpcaaDoor
open Go.RowKit
set_option linter.unusedVariables false
set_option maxRecDepth 100000

/-- the image of a row, its three lists -/
def imL (k r : Nat) (tb : List Int) (p : Int) (L C Q : List Int) : List Int := valsF (img k r tb (cellF p L C Q)) (p - (r : Int) - (L.length : Int)) L.length
def imC (k r : Nat) (tb : List Int) (p : Int) (L C Q : List Int) : List Int := valsF (img k r tb (cellF p L C Q)) (p - (r : Int)) (C.length + 2 * r)
def imQ (k r : Nat) (tb : List Int) (p : Int) (L C Q : List Int) : List Int := valsF (img k r tb (cellF p L C Q)) (p - (r : Int) + ((C.length + 2 * r : Nat) : Int)) Q.length
theorem im_row {k r : Nat} {tb : List Int} {p : Int} {L C Q : List Int} (h : IsRow k p L C Q) (hI : IsRule k r tb) (h1 : -4096 ≤ p - (r : Int)) (h2 : C.length + 2 * r ≤ 16384) : IsRow k (p - (r : Int)) (imL k r tb p L C Q) (imC k r tb p L C Q) (imQ k r tb p L C Q) := by
  have hp := h.p2
  have hv : ∀ i, 0 ≤ img k r tb (cellF p L C Q) i ∧ img k r tb (cellF p L C Q) i < (k : Int) := fun i => img_range hI.sym h.k1 i
  exact ⟨h.k1, h.k4, h1, by omega, by unfold imL; rw [valsF_len]; exact h.l1, by unfold imL; rw [valsF_len]; exact h.l2, by unfold imQ; rw [valsF_len]; exact h.r1, by unfold imQ; rw [valsF_len]; exact h.r2, by unfold imC; rw [valsF_len]; exact h2, valsF_mem hv, valsF_mem hv, valsF_mem hv⟩
theorem im_cell {k r : Nat} {tb : List Int} {p : Int} {L C Q : List Int} (h : IsRow k p L C Q) (i : Int) : cellF (p - (r : Int)) (imL k r tb p L C Q) (imC k r tb p L C Q) (imQ k r tb p L C Q) i = img k r tb (cellF p L C Q) i := cellF_image h.l1 h.r1 i
/-- row.Step, its lists told -/
theorem rowstep_im (k r : Nat) (aT : Option Addr) (nT cT : Nat) (tb : List Int) (p : Int) (aL aC aR : Option Addr) (nL cL nC cC nR cR : Nat) (L C Q : List Int) (W : World) (R : Nat → Addr) (hG : Glob W R) (hT : RK .i64 W aT nT tb) (hI : IsRule k r tb)
    (hM : RowM W aL nL cL L aC nC cC C aR nR cR Q) (h : IsRow k p L C Q) (h1 : -4096 ≤ p - (r : Int)) (h2 : nC + 2 * r ≤ 16384) :
    Calls Tryd.prog 11 #[ruleV k r aT nT cT, rowV p aL nL cL aC nC cC aR nR cR] W fun e w' => ∃ aL' cL' aC' cC' aR' cR', e = .returned (.tuple #[rowV (p - (r : Int)) aL' nL cL' aC' (nC + 2 * r) cC' aR' nR cR', .nilIface]) ∧
      RowM w' aL' nL cL' (imL k r tb p L C Q) aC' (nC + 2 * r) cC' (imC k r tb p L C Q) aR' nR cR' (imQ k r tb p L C Q) ∧ (∀ b o, aL' = some ⟨b, o, none⟩ ∨ aC' = some ⟨b, o, none⟩ ∨ aR' = some ⟨b, o, none⟩ → W.heap.size ≤ b) ∧ Below W.heap.size W w' := by
  refine (rowstep_ok k r aT nT cT tb p aL aC aR nL cL nC cC nR cR L C Q W R hG hT hI hM h h1 h2).mono ?_
  rintro e w' ⟨aL', cL', aC', cC', aR', cR', rfl, ho⟩
  have e1 := hM.l.rk.len
  have e2 := hM.c.rk.len
  have e3 := hM.r.rk.len
  have hl := ho.L.sl hM.l.n8
  have hc := ho.C.sl (by omega)
  have hr := ho.R.sl hM.r.n8
  have fr : ∀ {B n c : Nat} {a : Option Addr} {l : List Int}, OwI w' B a n c l → ∀ b o, a = some ⟨b, o, none⟩ → B ≤ b := by
    intro B n c a l h b o e
    rcases h.own.2 with ⟨h1, _⟩ | ⟨g, cap, cur, h1, h2, _⟩
    · cases h1; cases e
    · cases h1; cases e; exact h2
  refine ⟨aL', cL', aC', cC', aR', cR', rfl, ⟨?_, ?_, ?_⟩, ?_, ho.bel⟩
  · unfold imL; rw [← e1]; exact hl
  · unfold imC; rw [← e2]; exact hc
  · unfold imQ; rw [← e2, ← e3]; exact hr
  · rintro b o (e | e | e)
    · exact fr ho.L b o e
    · exact fr ho.C b o e
    · exact fr ho.R b o e
theorem rk_heapQ {k : IntKind} {w w' : World} {a : Option Addr} {n : Nat} {l : List Int} (h : RK k w a n l) {g : Nat} (hk : ∀ k, k ≠ g → w'.heap[k]? = w.heap[k]?) (hs : w'.heap.size = w.heap.size) (hg : ∀ b o, a = some ⟨b, o, none⟩ → b ≠ g) : RK k w' a n l := rk_set3 h hk hs hg
theorem RowM.st {w w' : World} {aL aC aR : Option Addr} {nL cL nC cC nR cR : Nat} {L C Q : List Int} (h : RowM w aL nL cL L aC nC cC C aR nR cR Q) {g : Nat} (hk : ∀ k, k ≠ g → w'.heap[k]? = w.heap[k]?) (hs : w'.heap.size = w.heap.size)
    (hg : ∀ b o, aL = some ⟨b, o, none⟩ ∨ aC = some ⟨b, o, none⟩ ∨ aR = some ⟨b, o, none⟩ → b ≠ g) : RowM w' aL nL cL L aC nC cC C aR nR cR Q :=
  ⟨⟨rk_set3 h.l.rk hk hs fun b o e => hg b o (.inl e), h.l.le, h.l.n8, h.l.mx, h.l.nn⟩, ⟨rk_set3 h.c.rk hk hs fun b o e => hg b o (.inr (.inl e)), h.c.le, h.c.n8, h.c.mx, h.c.nn⟩, ⟨rk_set3 h.r.rk hk hs fun b o e => hg b o (.inr (.inr e)), h.r.le, h.r.n8, h.r.mx, h.r.nn⟩⟩
/-- the row behind d steps of radius r in all -/
structure RowIt (k r : Nat) (tb : List Int) (p0 : Int) (s : Int → Int) (n0 i d : Nat) (p : Int) (nC : Nat) (L C Q : List Int) : Prop where
  row : IsRow k p L C Q
  at_ : p = p0 - (d : Int)
  nc : nC = n0 + 2 * d
  dd : d = r * i
  eq : ∀ j, cellF p L C Q j = imgN k r tb i s j
theorem rowIt_zero {k r : Nat} {tb : List Int} {p : Int} {L C Q : List Int} {n : Nat} (h : IsRow k p L C Q) : RowIt k r tb p (cellF p L C Q) n 0 0 p n L C Q := ⟨h, by omega, by omega, by omega, fun j => rfl⟩
theorem rowIt_step {k r : Nat} {tb : List Int} {p0 : Int} {s : Int → Int} {n0 i d : Nat} {p : Int} {nC : Nat} {L C Q : List Int} (h : RowIt k r tb p0 s n0 i d p nC L C Q) (hI : IsRule k r tb) (h1 : -4096 ≤ p - (r : Int)) (hn : nC = C.length) (h2 : nC + 2 * r ≤ 16384) :
    RowIt k r tb p0 s n0 (i + 1) (d + r) (p - (r : Int)) (nC + 2 * r) (imL k r tb p L C Q) (imC k r tb p L C Q) (imQ k r tb p L C Q) := by
  refine ⟨im_row h.row hI h1 (by omega), by have := h.at_; omega, by have := h.nc; omega, by rw [h.dd, Nat.mul_succ], fun j => ?_⟩
  rw [im_cell h.row]
  show _ = img k r tb (imgN k r tb i s) j
  exact img_congr fun q _ => h.eq _
theorem cells4S {w : World} {g : Nat} {x0 x1 x2 x3 : Value} {t : TypeId} (h : w.heap[g]? = some (.cells #[x0, x1, x2, x3] t)) : w.cell? ⟨g, 0, none⟩ = some x0 ∧ w.cell? ⟨g, 1, none⟩ = some x1 ∧ w.cell? ⟨g, 2, none⟩ = some x2 ∧ w.cell? ⟨g, 3, none⟩ = some x3 := by
  simp [World.cell?, h]
theorem frozen4S {w : World} {g : Nat} {x0 x1 x2 x3 : Value} {t : TypeId} (h : w.heap[g]? = some (.cells #[x0, x1, x2, x3] t)) : w.frozen? ⟨g, 0, none⟩ = false ∧ w.frozen? ⟨g, 1, none⟩ = false ∧ w.frozen? ⟨g, 2, none⟩ = false ∧ w.frozen? ⟨g, 3, none⟩ = false := by
  simp [World.frozen?, h]
theorem set4S {w : World} {g : Nat} {x0 x1 x2 x3 : Value} {t : TypeId} {fr : Nat × Nat} (h : w.heap[g]? = some (.cells #[x0, x1, x2, x3] t fr)) (u0 u1 u2 u3 : Value) :
    ∃ w6, ((((w.setCell ⟨g, 0, none⟩ u0).setCell ⟨g, 1, none⟩ u1).setCell ⟨g, 2, none⟩ u2).setCell ⟨g, 3, none⟩ u3) = w6 ∧ (∀ k, k ≠ g → w6.heap[k]? = w.heap[k]?) ∧ w6.heap.size = w.heap.size ∧ (∀ (V : World) (B : Nat), B ≤ g → Below B V w → Below B V w6) ∧ w6.heap[g]? = some (.cells #[u0, u1, u2, u3] t fr) := by
  refine ⟨_, rfl, fun k hk => ?_, ?_, fun V B hB hb => ?_, ?_⟩
  · rw [Below.heap_setCell _ _ _ _ hk, Below.heap_setCell _ _ _ _ hk, Below.heap_setCell _ _ _ _ hk, Below.heap_setCell _ _ _ _ hk]
  · simp [World.setCell]
  · exact (((hb.setCell (p := ⟨g, 0, none⟩) hB _).setCell (p := ⟨g, 1, none⟩) hB _).setCell (p := ⟨g, 2, none⟩) hB _).setCell (p := ⟨g, 3, none⟩) hB _
  · simp [World.setCell, Array.getElem?_modify, h]
theorem eca90_ring : ringL 2 1 (ecaL 90 8) [0, 0, 1, 0, 0] = [0, 1, 0, 1, 0] := by decide
theorem r5 : IsRing 2 [0, 0, 1, 0, 0] := ⟨by decide, by decide, by decide⟩
instance monoRKS {k : IntKind} {a : Option Addr} {n : Nat} {l : List Int} : Mono (fun w => RK k w a n l) := ⟨⟨fun hb h => h.up hb⟩⟩
theorem cnwS {w : World} {g j : Nat} {cs : Array Value} {t : TypeId} {v : Value} (hg : g = w.heap.size) (hv : cs[j]? = some v) : (w.alloc (.cells cs t)).cell? ⟨g, j, none⟩ = some v := cell_at_new rfl hg hv
theorem rk_litS (w : World) (l : List Int) (n : Nat) (hn : n = l.length) (cs : Array Value) (hc : cs = (l.map (Value.int .i64)).toArray) : RK .i64 (w.alloc (.cells cs 3)) (some ⟨w.heap.size, 0, none⟩) n l := by
  subst hc; subst hn
  exact rk_new rfl (by simp) (by simp)

set_option maxHeartbeats 8000000 in
theorem steps_any (W : World) : Calls Tryd.prog 5 #[] W fun e w' => e = .returned (.bool true) ∧ Below W.heap.size W w' := by
  have T0 := Tk.nil W
  have T1 := T0.add (fun wv => Below W.heap.size W wv) (bnil W)
  clear T0
  go_enter Tryd.func5, Tryd.ntmps5
  go_wp2_with fail
  refine (eca_any 90 W (by decide)).mono ?_; rintro e w1 ⟨a1, c1, rfl, ho1, hbw1⟩
  have T2 := T1.up hbw1
  clear T1
  have T3 := T2.add (fun wv => RK .i64 wv a1 8 (ecaL 90 8)) (ho1.rk)
  clear T2
  clear ho1
  obtain ⟨w2, hw2⟩ : ∃ w2, w1.alloc (.cells #[.int .i64 0, .int .i64 0, .int .i64 1, .int .i64 0, .int .i64 0] 3) = w2 := ⟨_, rfl⟩
  have hbw2 : Below w1.heap.size w1 w2 := by rw [← hw2]; exact balloc (bnil w1) _
  have T4 := T3.up hbw2
  clear T3
  have Hw2 := Lib.hid hw2
  clear hw2 hbw2
  have hl2 : RK .i64 w2 (some ⟨w1.heap.size, 0, none⟩) 5 [0, 0, 1, 0, 0] := by rw [← Hw2.out]; exact rk_litS w1 _ 5 rfl _ rfl
  have T5 := T4.add (fun wv => RK .i64 wv (some ⟨w1.heap.size, 0, none⟩) 5 [0, 0, 1, 0, 0]) (hl2)
  clear T4
  clear hl2
  go_wp2_with fail
  rw [Hw2.out]
  refine (ringstep_ok 2 1 a1 8 c1 (ecaL 90 8) (some ⟨w1.heap.size, 0, none⟩) 5 5 [0, 0, 1, 0, 0] w2 T5.out.1.2 T5.out.2 (eca_rule 90) r5).mono ?_; rintro e w3 ⟨a3, c3, rfl, ho3, hbw3⟩
  have T6 := T5.up hbw3
  clear T5
  rw [eca90_ring] at ho3
  have T7 := T6.add (fun wv => RK .i64 wv a3 5 [0, 1, 0, 1, 0]) (ho3.rk)
  clear T6
  clear ho3
  go_wp2_with fail
  refine (eca_any 90 w3 (by decide)).mono ?_; rintro e w4 ⟨a4, c4, rfl, ho4, hbw4⟩
  have T8 := T7.up hbw4
  clear T7
  have T9 := T8.add (fun wv => RK .i64 wv a4 8 (ecaL 90 8)) (ho4.rk)
  clear T8
  clear ho4
  go_wp2_with fail
  refine (fpower_ok 2 1 2 a4 8 c4 (ecaL 90 8) w4 T9.out.2 (eca_rule 90) (by decide) (by decide)).mono ?_; rintro e w5 ⟨aT, RR, TT, tp, rfl, hrk, hpw, hbw5⟩
  have T10 := T9.up hbw5
  clear T9
  have hRR : RR = 2 := hpw.rad
  subst hRR
  clear hrk hpw
  obtain ⟨w6, hw6⟩ : ∃ w6, w5.alloc (.cells #[.int .i64 2, .int .i64 2, .slice (some ⟨aT, 0, none⟩) TT TT] 24) = w6 := ⟨_, rfl⟩
  have hbw6 : Below w5.heap.size w5 w6 := by rw [← hw6]; exact balloc (bnil w5) _
  have T11 := T10.up hbw6
  clear T10
  have T12 := T11.add (fun wv => wv.cell? ⟨w5.heap.size, 0, none⟩ = some (.int .i64 2) ∧ wv.cell? ⟨w5.heap.size, 1, none⟩ = some (.int .i64 2) ∧ wv.cell? ⟨w5.heap.size, 2, none⟩ = some (.slice (some ⟨aT, 0, none⟩) TT TT)) (by rw [← hw6]; exact ⟨cnw (by simp) rfl, cnw (by simp) rfl, cnw (by simp) rfl⟩)
  clear T11
  have Hw6 := Lib.hid hw6
  clear hw6 hbw6
  have hl7 : RK .i64 (w6.alloc (.cells #[.int .i64 0, .int .i64 1, .int .i64 0, .int .i64 1, .int .i64 0] 3)) (some ⟨w6.heap.size, 0, none⟩) 5 [0, 1, 0, 1, 0] := rk_litS w6 _ 5 rfl _ rfl
  have hs6 : w6.heap.size = w5.heap.size + 1 := by rw [← Hw6.out]; simp
  obtain ⟨w7, hw7⟩ : ∃ w7, w6.alloc (.cells #[.int .i64 0, .int .i64 1, .int .i64 0, .int .i64 1, .int .i64 0] 3) = w7 := ⟨_, rfl⟩
  have hbw7 : Below w6.heap.size w6 w7 := by rw [← hw7]; exact balloc (bnil w6) _
  have T13 := T12.up hbw7
  clear T12
  have Hw7 := Lib.hid hw7
  clear hw7 hbw7
  rw [Hw7.out] at hl7
  have T14 := T13.add (fun wv => RK .i64 wv (some ⟨w6.heap.size, 0, none⟩) 5 [0, 1, 0, 1, 0]) (hl7)
  clear T13
  clear hl7
  go_wp2_with fail
  rw [Hw6.out, Hw7.out]
  try simp only [← hs6]
  refine (ints_eqB a3 _ 5 5 c3 5 [0, 1, 0, 1, 0] w7 T14.out.1.1.1.2 T14.out.2 (by decide)).mono ?_; rintro e w8 ⟨rfl, hbw8⟩
  have T15 := T14.up hbw8
  clear T14
  have v_p0 : w8.cell? ⟨w5.heap.size, 0, none⟩ = some (.int .i64 2) := T15.out.1.2.1
  have v_p1 : w8.cell? ⟨w5.heap.size, 1, none⟩ = some (.int .i64 2) := T15.out.1.2.2.1
  have v_p2 : w8.cell? ⟨w5.heap.size, 2, none⟩ = some (.slice (some ⟨aT, 0, none⟩) TT TT) := T15.out.1.2.2.2
  go_wp2
  go_ret
  exact ⟨rfl, T15.out.1.1.1.1.1.1.2⟩
end Go.Proofs.YtnmegpplfbkpcaaDoor
