/- The contracts of row.Cell, row.Cut, edenref07.Cell, edenref07.Cut, for all arguments. -/
import Derived.Test.YtkgalgmjdfhhbaaDoorRowN
import Derived.IntWalk
namespace Go.Proofs.YtkgalgmjdfhhbaaDoor
open Go.RowKit
set_option linter.unusedVariables false
set_option maxRecDepth 100000

def placeB (i : Int) : Bool := decide (-1048576 ≤ i ∧ i ≤ 1048576)
def cellErr (k p : Int) (L C Q : List Int) (i : Int) : Option (Int × Int) := match rowErr k p L C Q with | some x => some x | none => if placeB i then none else some (5, 3)
def cellV (k p : Int) (L C Q : List Int) (i : Int) : Int := if cellErr k p L C Q i = none then cellF p L C Q i else 0
def cutErr (k p : Int) (L C Q : List Int) (i n : Int) : Option (Int × Int) := match cellErr k p L C Q i with | some x => some x | none => if n < 0 then some (6, 3) else if 4096 < n then some (6, 4) else none
def cutV (k p : Int) (L C Q : List Int) (i n : Int) : List Int := if cutErr k p L C Q i n = none then valsF (cellF p L C Q) i n.toNat else []
def tell (op : ByteArray) (x : Option (Int × Int)) : Option (ByteArray × Int × Int) := x.map fun y => (op, y.1, y.2)
theorem refcheck_ok0 (k p : Int) (aL aC aR : Option Addr) (nL cL nC cC nR cR : Nat) (L C Q : List Int) (W : World) (hM : RowM W aL nL cL L aC nC cC C aR nR cR Q) (h : rowErr k p L C Q = none) :
    Calls Tryd.prog 27 #[.int .i64 k, rowV p aL nL cL aC nC cC aR nR cR] W fun e w' => e = .returned (.agg #[.int .i64 0, .slice none 0 0, .slice none 0 0]) ∧ Below W.heap.size W w' := by
  obtain ⟨kn, rfl, hr⟩ := rowErr_none h
  exact refcheck_ok kn p aL aC aR nL cL nC cC nR cR L C Q W hM hr
theorem rowcheck_ok0 (k p : Int) (aL aC aR : Option Addr) (nL cL nC cC nR cR : Nat) (L C Q : List Int) (W : World) (R : Nat → Addr) (hG : Glob W R) (hM : RowM W aL nL cL L aC nC cC C aR nR cR Q) (h : rowErr k p L C Q = none) :
    Calls Tryd.prog 26 #[.int .i64 k, rowV p aL nL cL aC nC cC aR nR cR] W fun e w' => e = .returned .nilIface ∧ Below W.heap.size W w' := by
  obtain ⟨kn, rfl, hr⟩ := rowErr_none h
  exact rowcheck_ok kn p aL aC aR nL cL nC cC nR cR L C Q W R hG hM hr
theorem place_t (i : Int) (W : World) (h : placeB i = true) : Calls Tryd.prog 36 #[.int .i64 i] W fun e w' => e = .returned (.bool true) ∧ W = w' := by
  have := place_any i W
  unfold placeB at h
  rwa [h] at this
theorem place_f (i : Int) (W : World) (h : placeB i = false) : Calls Tryd.prog 36 #[.int .i64 i] W fun e w' => e = .returned (.bool false) ∧ W = w' := by
  have := place_any i W
  unfold placeB at h
  rwa [h] at this
/-- a value, and an error or none -/
def WithErr (R : Nat → Addr) (W : World) (v : Value) (x : Option (ByteArray × Int × Int)) (e : Ending) (w' : World) : Prop := ∃ ev, e = .returned (.tuple #[v, ev]) ∧ ErrIs W.heap.size R w' ev x ∧ Below W.heap.size W w'
/-- a list, and an error or none -/
def ListErr (R : Nat → Addr) (W : World) (l : List Int) (x : Option (ByteArray × Int × Int)) (e : Ending) (w' : World) : Prop := ∃ a n c ev, e = .returned (.tuple #[.slice a n c, ev]) ∧ RK .i64 w' a n l ∧ ErrIs W.heap.size R w' ev x ∧ Below W.heap.size W w'
/-- a value, and an error as the document has it -/
def WithRef (W : World) (v : Value) (x : Option (ByteArray × Int × Int)) (e : Ending) (w' : World) : Prop := ∃ N a1 n1 c1 a2 n2 c2, e = .returned (.tuple #[v, .agg #[.int .i64 N, .slice a1 n1 c1, .slice a2 n2 c2]]) ∧ WantIs w' (.agg #[.int .i64 N, .slice a1 n1 c1, .slice a2 n2 c2]) x ∧ Below W.heap.size W w'
/-- a list, and an error as the document has it -/
def ListRef (W : World) (l : List Int) (x : Option (ByteArray × Int × Int)) (e : Ending) (w' : World) : Prop := ∃ a n c N a1 n1 c1 a2 n2 c2, e = .returned (.tuple #[.slice a n c, .agg #[.int .i64 N, .slice a1 n1 c1, .slice a2 n2 c2]]) ∧ RK .i64 w' a n l ∧ WantIs w' (.agg #[.int .i64 N, .slice a1 n1 c1, .slice a2 n2 c2]) x ∧ Below W.heap.size W w'

set_option maxHeartbeats 4000000 in
theorem rowcell_any (k p i : Int)  (aL aC aR : Option Addr) (nL cL nC cC nR cR : Nat) (L C Q : List Int) (W : World) (R : Nat → Addr) (hG : Glob W R) (hM : RowM W aL nL cL L aC nC cC C aR nR cR Q) :
    Calls Tryd.prog 23 #[.int .i64 k, rowV p aL nL cL aC nC cC aR nR cR, .int .i64 i ] W (WithErr R W (.int .i64 (cellV k p L C Q i)) (tell opRow (cellErr k p L C Q i))) := by
  have hbx := balloc (bnil W) (.cells #[.int .i64 p, .slice aL nL cL, .slice aC nC cC, .slice aR nR cR] 26)
  have HBX := Lib.hid hbx
  have HG := Lib.hid (hG.up hbx)
  have HM := Lib.hid (hM.up hbx)
  clear hG hM
  cases hr : rowErr k p L C Q with
  | some x =>
    obtain ⟨at_, n0⟩ := x
    have hc : cellErr k p L C Q i = some (at_, n0) := by unfold cellErr; rw [hr]
    have HC := Lib.hid hc
    have HR := Lib.hid hr
    clear hc hr hbx
    go_enter Tryd.func23, Tryd.ntmps23
    go_wp2_with fail
    refine (rowcheck_err k p aL aC aR nL cL nC cC nR cR L C Q _ R HG.out HM.out (at_, n0) HR.out).mono ?_; rintro e w1 ⟨g, rfl, he, hb1⟩
    go_wp2
    go_ret2
    have hb := HBX.out.trans (hb1.mono HBX.out.size)
    exact ⟨_, by unfold cellV; rw [if_neg (by rw [HC.out]; simp)]; rfl, by rw [HC.out]; exact IsErr.base he HBX.out.size, hb⟩
  | none =>
    have HR := Lib.hid hr
    have hHR := hr
    obtain ⟨kn, rfl, hrow⟩ := rowErr_none hr
    have HROW := Lib.hid hrow
    have hp1 := hrow.p1
    have hp2 := hrow.p2
    have hl : 0 < nL := by rw [HM.out.l.rk.len]; exact hrow.l1
    have hq : 0 < nR := by rw [HM.out.r.rk.len]; exact hrow.r1
    clear hrow
    cases hpl : placeB i with
    | false =>
      have hc : cellErr (kn : Int) p L C Q i = some (5, 3) := by unfold cellErr; rw [hHR, hpl]; rfl
      have HC := Lib.hid hc
      have HP := Lib.hid hpl
      clear hc hr hHR hbx hpl
      go_enter Tryd.func23, Tryd.ntmps23
      go_wp2_with fail
      refine (rowcheck_ok0 kn p aL aC aR nL cL nC cC nR cR L C Q _ R HG.out HM.out HR.out).mono ?_; rintro e w1 ⟨rfl, hb1⟩
      have HB1 := Lib.hid hb1
      have HG1 := Lib.hid (HG.out.up hb1)
      clear hb1
      go_wp2_with (first
        | (go_at_call 36; refine (place_f i _ HP.out).mono ?_; rintro e w2 ⟨rfl, rfl⟩)
        | (go_at_call 33; refine (row_wrong _ _ _ R HG1.out rfl).mono ?_; rintro e w2 ⟨rfl, rfl⟩))
      go_ret2
      have hb := fun o => HBX.out.trans ((balloc HB1.out o).mono HBX.out.size)
      have he := isErr_new (R := R) (w := w1) (op := opRow) (at_ := 5) (n := 3) (Nat.le_trans HBX.out.size HB1.out.size)
      exact ⟨_, by unfold cellV; rw [if_neg (by rw [HC.out]; simp)]; rfl, by rw [HC.out]; exact he, hb _⟩
    | true =>
      have hi : -1048576 ≤ i ∧ i ≤ 1048576 := by unfold placeB at hpl; exact of_decide_eq_true hpl
      have hi1 := hi.1
      have hi2 := hi.2
      have hc : cellErr (kn : Int) p L C Q i = none := by unfold cellErr; rw [hHR, hpl]; rfl
      have HC := Lib.hid hc
      have HP := Lib.hid hpl
      have HX : Hid (((W.alloc (.cells #[.int .i64 p, .slice aL nL cL, .slice aC nC cC, .slice aR nR cR] 26)).cell? ⟨W.heap.size, 0, none⟩ = some (.int .i64 p)) ∧ ((W.alloc (.cells #[.int .i64 p, .slice aL nL cL, .slice aC nC cC, .slice aR nR cR] 26)).cell? ⟨W.heap.size, 1, none⟩ = some (.slice aL nL cL)) ∧ ((W.alloc (.cells #[.int .i64 p, .slice aL nL cL, .slice aC nC cC, .slice aR nR cR] 26)).cell? ⟨W.heap.size, 2, none⟩ = some (.slice aC nC cC)) ∧ ((W.alloc (.cells #[.int .i64 p, .slice aL nL cL, .slice aC nC cC, .slice aR nR cR] 26)).cell? ⟨W.heap.size, 3, none⟩ = some (.slice aR nR cR))) := ⟨by simp, by simp, by simp, by simp⟩
      clear hi hc hr hHR hbx hpl
      go_enter Tryd.func23, Tryd.ntmps23
      go_wp2_with fail
      refine (rowcheck_ok0 kn p aL aC aR nL cL nC cC nR cR L C Q _ R HG.out HM.out HR.out).mono ?_; rintro e w1 ⟨rfl, hb1⟩
      have HB1 := Lib.hid hb1
      have x0 := (hb1.cell (p := ⟨W.heap.size, 0, none⟩) (by simp)).trans HX.out.1
      have x1 := (hb1.cell (p := ⟨W.heap.size, 1, none⟩) (by simp)).trans HX.out.2.1
      have x2 := (hb1.cell (p := ⟨W.heap.size, 2, none⟩) (by simp)).trans HX.out.2.2.1
      have x3 := (hb1.cell (p := ⟨W.heap.size, 3, none⟩) (by simp)).trans HX.out.2.2.2
      have HM1 := Lib.hid (HM.out.up hb1)
      clear hb1
      go_wp2_with (first
        | (go_at_call 36; refine (place_t i _ HP.out).mono ?_; rintro e w2 ⟨rfl, rfl⟩))
      refine (cell_any p i aL aC aR nL cL nC cC nR cR L C Q _ HM1.out hl hq (by omega) (by omega) (by omega) (by omega)).mono ?_; rintro e w2 ⟨rfl, hb2⟩
      go_wp2
      go_ret2
      refine ⟨_, by unfold cellV; rw [if_pos HC.out]; rfl, ?_, HBX.out.trans ((bstep HB1.out hb2).mono HBX.out.size)⟩
      rw [HC.out]
      rfl

set_option maxHeartbeats 4000000 in
theorem rowcut_any (k p i : Int) (n : Int) (aL aC aR : Option Addr) (nL cL nC cC nR cR : Nat) (L C Q : List Int) (W : World) (R : Nat → Addr) (hG : Glob W R) (hM : RowM W aL nL cL L aC nC cC C aR nR cR Q) :
    Calls Tryd.prog 11 #[.int .i64 k, rowV p aL nL cL aC nC cC aR nR cR, .int .i64 i , .int .i64 n] W (ListErr R W (cutV k p L C Q i n) (tell opRow (cutErr k p L C Q i n))) := by
  have hbx := balloc (bnil W) (.cells #[.int .i64 p, .slice aL nL cL, .slice aC nC cC, .slice aR nR cR] 26)
  have HBX := Lib.hid hbx
  have HG := Lib.hid (hG.up hbx)
  have HM := Lib.hid (hM.up hbx)
  have HGG := Lib.hid hG
  have HMM := Lib.hid hM
  clear hG hM
  cases hr : rowErr k p L C Q with
  | some x =>
    obtain ⟨at_, n0⟩ := x
    have hc : cellErr k p L C Q i = some (at_, n0) := by unfold cellErr; rw [hr]
    have HC := Lib.hid hc
    have HR := Lib.hid hr
    clear hc hr hbx
    go_enter Tryd.func11, Tryd.ntmps11
    go_wp2_with fail
    refine (rowcheck_err k p aL aC aR nL cL nC cC nR cR L C Q _ R HG.out HM.out (at_, n0) HR.out).mono ?_; rintro e w1 ⟨g, rfl, he, hb1⟩
    go_wp2
    go_ret2
    have hb := HBX.out.trans (hb1.mono HBX.out.size)
    have hcu : cutErr k p L C Q i n = some (at_, n0) := by unfold cutErr; rw [HC.out]
    exact ⟨none, 0, 0, _, rfl, by unfold cutV; rw [if_neg (by rw [hcu]; simp)]; exact RK.nil, by rw [hcu]; exact IsErr.base he HBX.out.size, hb⟩
  | none =>
    have HR := Lib.hid hr
    have hHR := hr
    obtain ⟨kn, rfl, hrow⟩ := rowErr_none hr
    have HROW := Lib.hid hrow
    have hp1 := hrow.p1
    have hp2 := hrow.p2
    have hl : 0 < nL := by rw [HM.out.l.rk.len]; exact hrow.l1
    have hq : 0 < nR := by rw [HM.out.r.rk.len]; exact hrow.r1
    clear hrow
    cases hpl : placeB i with
    | false =>
      have hc : cellErr (kn : Int) p L C Q i = some (5, 3) := by unfold cellErr; rw [hHR, hpl]; rfl
      have HC := Lib.hid hc
      have HP := Lib.hid hpl
      clear hc hr hHR hbx hpl
      go_enter Tryd.func11, Tryd.ntmps11
      go_wp2_with fail
      refine (rowcheck_ok0 kn p aL aC aR nL cL nC cC nR cR L C Q _ R HG.out HM.out HR.out).mono ?_; rintro e w1 ⟨rfl, hb1⟩
      have HB1 := Lib.hid hb1
      have HG1 := Lib.hid (HG.out.up hb1)
      clear hb1
      go_wp2_with (first
        | (go_at_call 36; refine (place_f i _ HP.out).mono ?_; rintro e w2 ⟨rfl, rfl⟩)
        | (go_at_call 33; refine (row_wrong _ _ _ R HG1.out rfl).mono ?_; rintro e w2 ⟨rfl, rfl⟩))
      go_ret2
      have hb := fun o => HBX.out.trans ((balloc HB1.out o).mono HBX.out.size)
      have he := isErr_new (R := R) (w := w1) (op := opRow) (at_ := 5) (n := 3) (Nat.le_trans HBX.out.size HB1.out.size)
      have hcu : cutErr (kn : Int) p L C Q i n = some (5, 3) := by unfold cutErr; rw [HC.out]
      exact ⟨none, 0, 0, _, rfl, by unfold cutV; rw [if_neg (by rw [hcu]; simp)]; exact RK.nil, by rw [hcu]; exact he, hb _⟩
    | true =>
      have hi : -1048576 ≤ i ∧ i ≤ 1048576 := by unfold placeB at hpl; exact of_decide_eq_true hpl
      have hi1 := hi.1
      have hi2 := hi.2
      have hc : cellErr (kn : Int) p L C Q i = none := by unfold cellErr; rw [hHR, hpl]; rfl
      have HC := Lib.hid hc
      have HP := Lib.hid hpl
      have HX : Hid (((W.alloc (.cells #[.int .i64 p, .slice aL nL cL, .slice aC nC cC, .slice aR nR cR] 26)).cell? ⟨W.heap.size, 0, none⟩ = some (.int .i64 p)) ∧ ((W.alloc (.cells #[.int .i64 p, .slice aL nL cL, .slice aC nC cC, .slice aR nR cR] 26)).cell? ⟨W.heap.size, 1, none⟩ = some (.slice aL nL cL)) ∧ ((W.alloc (.cells #[.int .i64 p, .slice aL nL cL, .slice aC nC cC, .slice aR nR cR] 26)).cell? ⟨W.heap.size, 2, none⟩ = some (.slice aC nC cC)) ∧ ((W.alloc (.cells #[.int .i64 p, .slice aL nL cL, .slice aC nC cC, .slice aR nR cR] 26)).cell? ⟨W.heap.size, 3, none⟩ = some (.slice aR nR cR))) := ⟨by simp, by simp, by simp, by simp⟩
      clear hi hc hr hHR hbx hpl
      by_cases hn : n < 0
      · have hcu : cutErr (kn : Int) p L C Q i n = some (6, 3) := by unfold cutErr; rw [HC.out]; simp [hn]
        have HCU := Lib.hid hcu
        clear hcu
        go_enter Tryd.func11, Tryd.ntmps11
        go_wp2_with fail
        refine (rowcheck_ok0 kn p aL aC aR nL cL nC cC nR cR L C Q _ R HG.out HM.out HR.out).mono ?_; rintro e w1 ⟨rfl, hb1⟩
        have HB1 := Lib.hid hb1
        have HG1 := Lib.hid (HG.out.up hb1)
        clear hb1
        go_wp2_with (first
          | (go_at_call 36; refine (place_t i _ HP.out).mono ?_; rintro e w2 ⟨rfl, rfl⟩)
          | (go_at_call 33; refine (row_wrong _ _ _ R HG1.out rfl).mono ?_; rintro e w2 ⟨rfl, rfl⟩))
        go_ret2
        have hb := fun o => HBX.out.trans ((balloc HB1.out o).mono HBX.out.size)
        have he := isErr_new (R := R) (w := w1) (op := opRow) (at_ := 6) (n := 3) (Nat.le_trans HBX.out.size HB1.out.size)
        exact ⟨none, 0, 0, _, rfl, by unfold cutV; rw [if_neg (by rw [HCU.out]; simp)]; exact RK.nil, by rw [HCU.out]; exact he, hb _⟩
      by_cases hn4 : 4096 < n
      · have hcu : cutErr (kn : Int) p L C Q i n = some (6, 4) := by unfold cutErr; rw [HC.out]; simp [hn, hn4]
        have HCU := Lib.hid hcu
        clear hcu
        go_enter Tryd.func11, Tryd.ntmps11
        go_wp2_with fail
        refine (rowcheck_ok0 kn p aL aC aR nL cL nC cC nR cR L C Q _ R HG.out HM.out HR.out).mono ?_; rintro e w1 ⟨rfl, hb1⟩
        have HB1 := Lib.hid hb1
        have HG1 := Lib.hid (HG.out.up hb1)
        clear hb1
        go_wp2_with (first
          | (go_at_call 36; refine (place_t i _ HP.out).mono ?_; rintro e w2 ⟨rfl, rfl⟩)
          | (go_at_call 33; refine (row_wrong _ _ _ R HG1.out rfl).mono ?_; rintro e w2 ⟨rfl, rfl⟩))
        go_ret2
        have hb := fun o => HBX.out.trans ((balloc HB1.out o).mono HBX.out.size)
        have he := isErr_new (R := R) (w := w1) (op := opRow) (at_ := 6) (n := 4) (Nat.le_trans HBX.out.size HB1.out.size)
        exact ⟨none, 0, 0, _, rfl, by unfold cutV; rw [if_neg (by rw [HCU.out]; simp)]; exact RK.nil, by rw [HCU.out]; exact he, hb _⟩
      obtain ⟨m, rfl⟩ : ∃ m : Nat, n = (m : Int) := ⟨n.toNat, by omega⟩
      have hm : m ≤ 4096 := by omega
      have hcu : cutErr (kn : Int) p L C Q i (m : Int) = none := by unfold cutErr; rw [HC.out]; simp [hn4]
      have HCU := Lib.hid hcu
      clear hcu hn hn4
      refine (cut_ok kn p i m aL aC aR nL cL nC cC nR cR L C Q W R HGG.out HMM.out HROW.out hi1 hi2 hm).mono ?_
      rintro e w1 ⟨a1, c1, rfl, ho, hb⟩
      refine ⟨a1, m, c1, _, rfl, ?_, ?_, hb⟩
      · unfold cutV
        rw [if_pos HCU.out, Int.toNat_natCast]
        exact ho.rk
      · rw [HCU.out]
        rfl
end Go.Proofs.YtkgalgmjdfhhbaaDoor
