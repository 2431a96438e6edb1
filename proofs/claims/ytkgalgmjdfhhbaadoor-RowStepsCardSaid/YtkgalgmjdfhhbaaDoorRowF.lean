/- The contracts of edenlaw07.lent, kept, awake and of edenraw.Rows. -/
import Derived.Test.YtkgalgmjdfhhbaaDoorRowC
import Derived.Test.YtkgalgmjdfhhbaaDoorRowE
import Derived.Deep.RegionHeld3
namespace Go.Proofs.YtkgalgmjdfhhbaaDoor
open Go.RowKit
set_option linter.unusedVariables false
set_option maxRecDepth 100000

/-- a lent list: its marks behind it -/
def LentM (w : World) (g n : Nat) (l : List Int) : Prop := RK .i64 w (some ⟨g, 0, none⟩) (n + 2) (l ++ marksI)
theorem LentM.up {w w' : World} {g n : Nat} {l : List Int} (h : LentM w g n l) (hb : Below w.heap.size w w') : LentM w' g n l := RK.up h hb
theorem LentM.sl {w : World} {g n : Nat} {l : List Int} (h : LentM w g n l) (h8 : n * 8 ≤ 140737488351232) : SlI w (some ⟨g, 0, none⟩) n (n + 2) l := by
  have hl := h.len
  simp [marksI] at hl
  exact ⟨rk_prefix h hl, by omega, h8, by unfold maxLen; omega, fun e => by cases e⟩

theorem lent_ex (a : Option Addr) (n c : Nat) (l : List Int) (W : World) (hR : RK .i64 W a n l) (hn8 : n * 8 ≤ 140737488351232) :
    Calls Tryd.prog 40 #[.slice a n c] W fun e w' => ∃ g c', e = .returned (.slice (some ⟨g, 0, none⟩) n c') ∧ c' = n + 2 ∧ OwI w' W.heap.size (some ⟨g, 0, none⟩) (n + 2) (n + 2) (l ++ marksI) ∧ Below W.heap.size W w' :=
  (lent_any a n c l W hR hn8).mono fun e w' h => ⟨_, _, h.1, rfl, ⟨h.2.1⟩, h.2.2⟩

set_option maxHeartbeats 8000000 in
theorem lent7 (p : Int) (aL aC aR : Option Addr) (nL cL nC cC nR cR : Nat) (L C Q : List Int) (W : World) (hM : RowM W aL nL cL L aC nC cC C aR nR cR Q) :
    Calls Tryd.prog 15 #[rowV p aL nL cL aC nC cC aR nR cR] W fun e w' => ∃ gL gC gR, e = .returned (rowV p (some ⟨gL, 0, none⟩) nL (nL + 2) (some ⟨gC, 0, none⟩) nC (nC + 2) (some ⟨gR, 0, none⟩) nR (nR + 2)) ∧ LentM w' gL nL L ∧ LentM w' gC nC C ∧ LentM w' gR nR Q ∧ Below W.heap.size W w' := by
  have mL := hM.l.n8
  have mC := hM.c.n8
  have mR := hM.r.n8
  obtain ⟨Wb, hWb⟩ : ∃ Wb, (W.alloc (.cells #[.int .i64 p, .slice aL nL cL, .slice aC nC cC, .slice aR nR cR] 26)).alloc (.cells #[.int .i64 0, .slice none 0 0, .slice none 0 0, .slice none 0 0] 26) = Wb := ⟨_, rfl⟩
  have HY : Hid (Wb.cell? ⟨W.heap.size, 0, none⟩ = some (.int .i64 p) ∧ Wb.cell? ⟨W.heap.size, 1, none⟩ = some (.slice aL nL cL) ∧ Wb.cell? ⟨W.heap.size, 2, none⟩ = some (.slice aC nC cC) ∧ Wb.cell? ⟨W.heap.size, 3, none⟩ = some (.slice aR nR cR)) := by rw [← hWb]; exact ⟨cell_al _ (by simp), cell_al _ (by simp), cell_al _ (by simp), cell_al _ (by simp)⟩
  have HZ : Hid (Wb.heap[W.heap.size + 1]? = some (.cells #[.int .i64 0, .slice none 0 0, .slice none 0 0, .slice none 0 0] 26)) := by
    show _ = _
    rw [← hWb]
    have := heap_alloc_new (W.alloc (.cells #[.int .i64 p, .slice aL nL cL, .slice aC nC cC, .slice aR nR cR] 26)) (.cells #[.int .i64 0, .slice none 0 0, .slice none 0 0, .slice none 0 0] 26)
    simpa using this
  have HSZ : Hid (Wb.heap.size = W.heap.size + 2) := by show _ = _; rw [← hWb]; simp
  have HS0 : Hid (W.heap.size < Wb.drew.heap.size) := by show W.heap.size < Wb.heap.size; have := HSZ.out; omega
  have HBX : Hid (Below W.heap.size W Wb) := by rw [← hWb]; exact balloc (balloc (bnil W) _) _
  have HM := Lib.hid (hM.up (Below.drew HBX.out)); clear hM
  have HWB := Lib.hid hWb; clear hWb
  go_enter Tryd.func15, Tryd.ntmps15
  go_wp2_with fail
  rw [HWB.out]
  have y0 := HY.out.1
  have y1 := HY.out.2.1
  have y2 := HY.out.2.2.1
  have y3 := HY.out.2.2.2
  go_region_held3 (fun w' => w'.cell? ⟨W.heap.size, 0, none⟩ = some (.int .i64 p) ∧ w'.cell? ⟨W.heap.size, 1, none⟩ = some (.slice aL nL cL) ∧ w'.cell? ⟨W.heap.size, 2, none⟩ = some (.slice aC nC cC) ∧ w'.cell? ⟨W.heap.size, 3, none⟩ = some (.slice aR nR cR))
    (first | exact ⟨y0, y1, y2, y3⟩ | exact ⟨y50, y51, y52, y53⟩ | exact ⟨y60, y61, y62, y63⟩ | exact ⟨y70, y71, y72, y73⟩ | go_keep)
    (first
      | (go_at_call_of 40 (Value.slice aL nL cL); refine (lent_ex aL nL cL L _ HM.out.l.rk mL).mono ?_; rintro e w5 ⟨g5, c5, rfl, hc5, ho5, hb5⟩; have HC5 := Lib.hid hc5; clear hc5; have y50 := (hb5.cell (p := ⟨W.heap.size, 0, none⟩) HS0.out).trans y0; have y51 := (hb5.cell (p := ⟨W.heap.size, 1, none⟩) HS0.out).trans y1; have y52 := (hb5.cell (p := ⟨W.heap.size, 2, none⟩) HS0.out).trans y2; have y53 := (hb5.cell (p := ⟨W.heap.size, 3, none⟩) HS0.out).trans y3; have HS5 := Lib.hid (Nat.lt_of_lt_of_le HS0.out hb5.size); have HE5 := Lib.hid hb5; have HO5 := Lib.hid ho5; clear hb5 ho5)
      | (go_at_call_of 40 (Value.slice aC nC cC); refine (lent_ex aC nC cC C _ (HM.out.c.rk.up HE5.out) mC).mono ?_; rintro e w6 ⟨g6, c6, rfl, hc6, ho6, hb6⟩; have HC6 := Lib.hid hc6; clear hc6; have y60 := (hb6.cell (p := ⟨W.heap.size, 0, none⟩) HS5.out).trans y50; have y61 := (hb6.cell (p := ⟨W.heap.size, 1, none⟩) HS5.out).trans y51; have y62 := (hb6.cell (p := ⟨W.heap.size, 2, none⟩) HS5.out).trans y52; have y63 := (hb6.cell (p := ⟨W.heap.size, 3, none⟩) HS5.out).trans y53; have HS6 := Lib.hid (Nat.lt_of_lt_of_le HS5.out hb6.size); have HE6 := Lib.hid (bstep HE5.out hb6); have HO6 := Lib.hid ho6; have HD6 := Lib.hid hb6; clear ho6 hb6)
      | (go_at_call_of 40 (Value.slice aR nR cR); refine (lent_ex aR nR cR Q _ (HM.out.r.rk.up HE6.out) mR).mono ?_; rintro e w7 ⟨g7, c7, rfl, hc7, ho7, hb7⟩; have HC7 := Lib.hid hc7; clear hc7; have y70 := (hb7.cell (p := ⟨W.heap.size, 0, none⟩) HS6.out).trans y60; have y71 := (hb7.cell (p := ⟨W.heap.size, 1, none⟩) HS6.out).trans y61; have y72 := (hb7.cell (p := ⟨W.heap.size, 2, none⟩) HS6.out).trans y62; have y73 := (hb7.cell (p := ⟨W.heap.size, 3, none⟩) HS6.out).trans y63; have HE7 := Lib.hid ((Below.drew (bnil Wb)).trans (bstep HE6.out hb7)); have hz7 := (HE7.out.block (W.heap.size + 1) (by have := HSZ.out; omega)).trans HZ.out; have HZ7 := Lib.hid hz7; have z0 : w7.cell? ⟨W.heap.size + 1, 0, none⟩ = some (.int .i64 0) := (by simp [World.cell?, hz7]); have z1 : w7.cell? ⟨W.heap.size + 1, 1, none⟩ = some (.slice none 0 0) := (by simp [World.cell?, hz7]); have z2 : w7.cell? ⟨W.heap.size + 1, 2, none⟩ = some (.slice none 0 0) := (by simp [World.cell?, hz7]); have z3 : w7.cell? ⟨W.heap.size + 1, 3, none⟩ = some (.slice none 0 0) := (by simp [World.cell?, hz7]); have f0 : w7.frozen? ⟨W.heap.size + 1, 0, none⟩ = false := (by simp [World.frozen?, hz7]); have f1 : w7.frozen? ⟨W.heap.size + 1, 1, none⟩ = false := (by simp [World.frozen?, hz7]); have f2 : w7.frozen? ⟨W.heap.size + 1, 2, none⟩ = false := (by simp [World.frozen?, hz7]); have f3 : w7.frozen? ⟨W.heap.size + 1, 3, none⟩ = false := (by simp [World.frozen?, hz7]); have HO7 := Lib.hid ho7; have HD7 := Lib.hid hb7; clear hz7 ho7 hb7))
  all_goals
    go_wp2
    obtain ⟨w8, e8, ⟨r0, r1, r2', r3'⟩, hk8, hs8, hbl8⟩ := set4 HZ7.out (.int .i64 p) (.slice (some ⟨g5, 0, none⟩) nL c5) (.slice (some ⟨g6, 0, none⟩) nC c6) (.slice (some ⟨g7, 0, none⟩) nR c7)
    rw [e8]
    refine bodyPost_ret (v := rowV p (some ⟨g5, 0, none⟩) nL c5 (some ⟨g6, 0, none⟩) nC c6 (some ⟨g7, 0, none⟩) nR c7) (by simp [results, Tryd.results15, go_sem, r0, r1, r2', r3']) rfl ?_
    have hsz := HSZ.out
    have hs5 : Wb.heap.size ≤ w5.heap.size := HE5.out.size
    have hs6 : w5.heap.size ≤ w6.heap.size := HD6.out.size
    have q5 : OwI w8 Wb.heap.size (some ⟨g5, 0, none⟩) (nL + 2) (nL + 2) (L ++ marksI) := ((HO5.out.up HD6.out).up HD7.out).heap fun b hb => hk8 b (by have : Wb.heap.size ≤ b := hb; omega)
    have q6 : OwI w8 w5.heap.size (some ⟨g6, 0, none⟩) (nC + 2) (nC + 2) (C ++ marksI) := (HO6.out.up HD7.out).heap fun b hb => hk8 b (by omega)
    have q7 : OwI w8 w6.heap.size (some ⟨g7, 0, none⟩) (nR + 2) (nR + 2) (Q ++ marksI) := HO7.out.heap fun b hb => hk8 b (by omega)
    exact ⟨_, _, _, by rw [HC5.out, HC6.out, HC7.out], q5.rk, q6.rk, q7.rk, hbl8 _ _ (by omega) (HBX.out.trans (HE7.out.mono HBX.out.size))⟩
end Go.Proofs.YtkgalgmjdfhhbaaDoor
