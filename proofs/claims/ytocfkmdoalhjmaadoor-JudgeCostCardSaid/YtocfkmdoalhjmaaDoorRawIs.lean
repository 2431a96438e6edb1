/- edenraw.Is by its contract. -/
import Derived.Test.YtocfkmdoalhjmaaDoorAs
import Derived.Test.YtocfkmdoalhjmaaDoorMem
import Derived.Deep.RegionWith
import Derived.Deep.RegionHeld3
import Derived.BigRegion
import Derived.Deep.QuietTactic
import Derived.BigQuiet
namespace Go.Proofs.YtocfkmdoalhjmaaDoor
open Go.RowKit Go.Extern.Stop Go.Stop Go.Extern
set_option linter.unusedVariables false
set_option maxRecDepth 100000

set_option maxHeartbeats 1000000 in
theorem rawRoot_any (n : Int) (w : World) (R : Nat → Addr) (hG : Glob w R) :
    Calls Tryd.prog 70 #[.int .i64 n] w fun e w' => e = .returned (.iface 199 (.pointer (some (R (rix n))))) ∧ w = w' := by
  have h0 := hG 0 (by omega)
  have h1 := hG 1 (by omega)
  have h2 := hG 2 (by omega)
  have h3 := hG 3 (by omega)
  have h4 := hG 4 (by omega)
  have h5 := hG 5 (by omega)
  have h6 := hG 6 (by omega)
  have h7 := hG 7 (by omega)
  have h8 := hG 8 (by omega)
  have h9 := hG 9 (by omega)
  have h10 := hG 10 (by omega)
  have h11 := hG 11 (by omega)
  simp only [gix, List.getD_cons_zero, List.getD_cons_succ] at h0 h1 h2 h3 h4 h5 h6 h7 h8 h9 h10 h11
  clear hG
  go_enter Tryd.func70, Tryd.ntmps70
  go_wp2
  all_goals (go_ret; exact ⟨by simp_all [rix], rfl⟩)

theorem rix_lt (n : Int) : rix n < 12 := by unfold rix; (repeat' split) <;> omega

/-- errors.As at a fresh variable of the type *api.Fault, behind a draw -/
theorem as_var_hit (e : Addr) (w : World) (hE : ErrType w) :
    Calls Tryd.prog 71 #[.iface 117 (.pointer (some e)), .iface 119 (.pointer (some ⟨w.heap.size, 0, none⟩))] (w.alloc (.cells #[.pointer none] 117)).drew fun ev w' => ev = .returned (.bool true) ∧
      Below w.heap.size w w' ∧ w.heap.size < w'.heap.size ∧ w'.cell? ⟨w.heap.size, 0, none⟩ = some (.pointer (some e)) := by
  have hE1 : ErrType (w.alloc (.cells #[.pointer none] 117)).drew := hE.up (Below.drew (balloc (bnil _) _))
  refine (as_hit e ⟨w.heap.size, 0, none⟩ (.pointer none) _ hE1 (by simp) (by simp)).mono fun ev w' h => ?_
  obtain ⟨h1, rfl⟩ := h
  refine ⟨h1, ?_, by simp; omega, ?_⟩
  · exact Below.setCell (balloc (balloc (balloc (balloc (Below.drew (balloc (bnil _) _)) _) _) _) _) (Nat.le_refl _) _
  · refine World.cell?_setCell_same _ _ _ (u := .pointer none) ?_
    rw [World.cell?_alloc_lt _ _ _ (by simp; omega), World.cell?_alloc_lt _ _ _ (by simp; omega), World.cell?_alloc_lt _ _ _ (by simp; omega), World.cell?_alloc_lt _ _ _ (by simp)]
    simp
theorem as_var_miss (a : Addr) (w : World) (hE : ErrType w) :
    Calls Tryd.prog 71 #[.iface 199 (.pointer (some a)), .iface 119 (.pointer (some ⟨w.heap.size, 0, none⟩))] (w.alloc (.cells #[.pointer none] 117)).drew fun ev w' => ev = .returned (.bool false) ∧
      Below w.heap.size w w' ∧ w.heap.size < w'.heap.size ∧ w'.cell? ⟨w.heap.size, 0, none⟩ = some (.pointer none) := by
  have hE1 : ErrType (w.alloc (.cells #[.pointer none] 117)).drew := hE.up (Below.drew (balloc (bnil _) _))
  refine (as_miss a ⟨w.heap.size, 0, none⟩ (.pointer none) _ hE1 (by simp)).mono fun ev w' h => ?_
  obtain ⟨h1, rfl⟩ := h
  refine ⟨h1, ?_, by simp; omega, ?_⟩
  · exact balloc (balloc (balloc (Below.drew (balloc (bnil _) _)) _) _) _
  · rw [World.cell?_alloc_lt _ _ _ (by simp; omega), World.cell?_alloc_lt _ _ _ (by simp; omega), World.cell?_alloc_lt _ _ _ (by simp)]
    simp

/-- FROM THE MIDST OF A REGION THAT DRAWS ITS ORDER: what is left only reads: one walk of the lexical order serves. -/
theorem wpAny_quiet_from {P : Program} {ops : Array Oper} {Q : Exit → Act → World → Prop} {a : Act} {w : World} {listed : Array Bool} (l : List Oper) (k : Nat) (hl : ops.toList.drop k = l) (hs : Region.noSelect ops = true)
    (hB : Region.lexFrom .any ops l.length k listed = true)
    (h : wpQuiet P ops (fun w' => ∃ n, w' = w.drewN n) (fun a' => ∀ w', (∃ n, w' = w.drewN n) → Q .normal a' w') l a) : wpAny P .any ops Q l.length listed a w :=
  wpAny_of_quiet (Q := fun a' => ∀ w', (∃ n, w' = w.drewN n) → Q .normal a' w') (fun _ w' hw' h => h w' hw') _ _ _ _ ⟨0, rfl⟩ (wpAnyQ_lex hs l k listed a (fun j => by subst hl; simp) hB h)

/-- the facts on an expected error: packages and places -/
structure WantRd (w : World) (es : List (ByteArray × Int)) (ao aa : Option Addr) (n1 n2 : Nat) : Prop where
  n1 : n1 = es.length
  n2 : n2 = es.length
  ops : Rd w ao es.length 1 (es.map fun x => Value.string x.1)
  ats : Rd w aa es.length 1 (es.map fun x => Value.int .i64 x.2)
  len : es.length ≤ 1000000

theorem rawIs_none_nil (ops ats : Value) (w : World) :
    Calls Tryd.prog 28 #[.nilIface, .agg #[.int .i64 0, ops, ats]] w fun e w' => e = .returned (.bool true) ∧ Below w.heap.size w w' := by
  go_enter Tryd.func28, Tryd.ntmps28
  go_wp2
  go_ret
  exact ⟨rfl, balloc (bnil _) _⟩

theorem rawIs_none (v : Value) (l : List (ByteArray × Int)) (a : Addr) (ops ats : Value) (w : World) (hv : Chain w v l a) :
    Calls Tryd.prog 28 #[v, .agg #[.int .i64 0, ops, ats]] w fun e w' => e = .returned (.bool false) ∧ Below w.heap.size w w' := by
  obtain ⟨t, p, rfl⟩ := hv.iface
  go_enter Tryd.func28, Tryd.ntmps28
  go_wp2
  go_ret
  exact ⟨rfl, balloc (bnil _) _⟩

theorem rawIs_nil (N : Int) (ops ats : Value) (w : World) (hN : (N == 0) = false) :
    Calls Tryd.prog 28 #[.nilIface, .agg #[.int .i64 N, ops, ats]] w fun e w' => e = .returned (.bool false) ∧ Below w.heap.size w w' := by
  go_enter Tryd.func28, Tryd.ntmps28
  go_wp2
  go_ret
  exact ⟨rfl, balloc (bnil _) _⟩

def IsPost (W : World) (b : Bool) (e : Ending) (w' : World) : Prop := e = .returned (.bool b) ∧ Below W.heap.size W w'

theorem at_head {α : Type} {es r : List α} {k : Nat} (hk : k ≤ es.length) (h : (es.take k ++ r) = es) : r = es.drop k := by
  have := congrArg (List.drop k) h
  rwa [List.drop_append_of_le_length (by simp [hk]), List.drop_of_length_le (by simp; omega), List.nil_append] at this

set_option maxHeartbeats 8000000 in
theorem rawIs_some (v : Value) (l es : List (ByteArray × Int)) (a : Addr) (N : Int) (ao aa : Option Addr) (no na co ca : Nat) (W : World) (R : Nat → Addr) (hS : Sent W R) (hE : ErrType W) (hv : Chain W v l a) (hw : WantRd W es ao aa no na) (hN : (N == 0) = false) :
    Calls Tryd.prog 28 #[v, .agg #[.int .i64 N, .slice ao no co, .slice aa na ca]] W (IsPost W (decide (a = R (rix N) ∧ l = es))) := by
  have hno := hw.n1
  have hna := hw.n2
  subst hno hna
  have hlen := hw.len
  obtain ⟨cb, tb, hb⟩ := hS.row (rix N) (rix_lt N)
  have HV := Lib.hid hv
  have HS := Lib.hid hS; clear hS
  have HE := Lib.hid hE; clear hE
  have HW := Lib.hid hw; clear hw
  have HB := Lib.hid hb; clear hb
  obtain ⟨t0, p0, rfl⟩ := hv.iface
  clear hv
  have hB1 : (W.alloc (.cells #[.int .i64 N, .slice ao es.length co, .slice aa es.length ca] 48)).heap[(R (rix N)).block]? = some (.cells cb tb (0, 0)) := by
    rw [(balloc (bnil W) _).block _ (Array.getElem?_eq_some_iff.1 HB.out).1]; exact HB.out
  have HB1 := Lib.hid hB1; clear hB1
  go_enter Tryd.func28, Tryd.ntmps28
  go_wp2_with fail
  refine (rawRoot_any _ _ R (HS.out.glob.alloc _)).mono ?_; rintro e w' ⟨rfl, rfl⟩
  go_wp2_with fail
  refine (is_any _ l a _ _ cb tb (HV.out.up (balloc (bnil _) _)) HB1.out).mono ?_
  by_cases ha : a = R (rix N)
  · subst ha
    rintro e w' ⟨rfl, rfl⟩
    have hdd : decide (R (rix N) = R (rix N)) = true := decide_eq_true rfl
    have hpp : decide (R (rix N) = R (rix N) ∧ l = es) = decide (l = es) := by simp
    have HP := Lib.hid hpp
    rw [hdd]
    clear hdd hpp
    go_wp2_with fail
    have hC1 := HV.out.up (balloc (bnil W) (.cells #[.int .i64 N, .slice ao es.length co, .slice aa es.length ca] 48))
    have hE1 := HE.out.up (balloc (bnil W) (.cells #[.int .i64 N, .slice ao es.length co, .slice aa es.length ca] 48))
    have hG1 := HS.out.glob.alloc (.cells #[.int .i64 N, .slice ao es.length co, .slice aa es.length ca] 48)
    have hO1 := HW.out.ops.al (.cells #[.int .i64 N, .slice ao es.length co, .slice aa es.length ca] 48)
    have hA1 := HW.out.ats.al (.cells #[.int .i64 N, .slice ao es.length co, .slice aa es.length ca] 48)
    have bw := balloc (bnil W) (.cells #[.int .i64 N, .slice ao es.length co, .slice aa es.length ca] 48)
    have x1 : (W.alloc (.cells #[.int .i64 N, .slice ao es.length co, .slice aa es.length ca] 48)).cell? ⟨W.heap.size, 0, none⟩ = some (.int .i64 N) := by simp
    have x2 : (W.alloc (.cells #[.int .i64 N, .slice ao es.length co, .slice aa es.length ca] 48)).cell? ⟨W.heap.size, 1, none⟩ = some (.slice ao es.length co) := by simp
    have x3 : (W.alloc (.cells #[.int .i64 N, .slice ao es.length co, .slice aa es.length ca] 48)).cell? ⟨W.heap.size, 2, none⟩ = some (.slice aa es.length ca) := by simp
    have z1 : W.heap.size < (W.alloc (.cells #[.int .i64 N, .slice ao es.length co, .slice aa es.length ca] 48)).heap.size := by simp
    generalize W.alloc (.cells #[.int .i64 N, .slice ao es.length co, .slice aa es.length ca] 48) = W1 at *
    have HE1 := Lib.hid hE1; clear hE1
    have HG1 := Lib.hid hG1; clear hG1
    have HC1 := Lib.hid hC1; clear hC1
    have X1 := Lib.hid x1; have X2 := Lib.hid x2; have X3 := Lib.hid x3
    clear x1 x2 x3
    go_loopw [0, 5] (fun u i wr => ∃ (k : Nat) (r : List (ByteArray × Int)), k ≤ es.length ∧ i = .int .i64 k ∧ l = es.take k ++ r ∧ Chain wr u r (R (rix N)) ∧ Below W1.heap.size W1 wr) (fun _ i _ => es.length - (intOf i).toNat)
    case atStart => exact ⟨0, l, by omega, rfl, rfl, HC1.out, bnil _⟩
    case round =>
      obtain ⟨k, r, hk, rfl, hl, hc, hb⟩ := hrel
      have HL := Lib.hid hl; clear hl
      have c1 : wr.cell? ⟨W.heap.size, 0, none⟩ = some (.int .i64 N) := (hb.cell z1).trans X1.out
      have c2 : wr.cell? ⟨W.heap.size, 1, none⟩ = some (.slice ao es.length co) := (hb.cell z1).trans X2.out
      have c3 : wr.cell? ⟨W.heap.size, 2, none⟩ = some (.slice aa es.length ca) := (hb.cell z1).trans X3.out
      by_cases hlt : k < es.length
      · cases r with
        | nil =>
          have HF : Hid (decide (l = es) = false) := by
            refine decide_eq_false fun e => ?_
            have := congrArg List.length (HL.out.symm.trans e)
            simp at this; omega
          obtain ⟨rfl, _⟩ := hc
          go_wp2_with fail
          have HEr := Lib.hid (HE1.out.up hb)
          clear c1 c2 c3
          refine wp_region_any (by kernel_rfl) ?_
          refine wpAny_take (i := 0) (v := ?_) rfl (by kernel_rfl) (by kernel_rfl) (by kernel_rfl) (fun _ _ _ h => h) (Or.inl ⟨by rfl, ?_⟩) ?_
          rotate_left
          · intro w; go_simp; with_reducible rfl
          refine wpAny_take (i := 1) (v := ?_) rfl (by kernel_rfl) (by kernel_rfl) (by kernel_rfl) (fun _ _ _ h => h) (Or.inl ⟨by rfl, ?_⟩) ?_
          rotate_left
          · intro w; go_simp; with_reducible rfl
          refine wpAny_ready (rs := [2]) (by kernel_rfl) (by simp) ?_
          refine AllReady.cons rfl (fun K hK => ?_) AllReady.nil
          go_simp
          refine (as_var_miss _ wr HEr.out).mono ?_; rintro e w' ⟨rfl, hb2, _, _⟩
          refine hK _ _ ?_
          refine wpAny_quiet_from _ 3 rfl (by kernel_rfl) (by kernel_rfl) ?_
          repeat (go_big_quiet_step (fail))
          refine wpQuiet_nil ?_
          intro _ hw'
          obtain ⟨nq, hw''⟩ := hw'
          subst hw''
          go_wp2
          go_ret
          rw [HF.out]
          exact ⟨rfl, bdrewN (bstep (bstep bw hb) hb2) _⟩
        | cons y r =>
          obtain ⟨g, x, rfl, hg, hc⟩ := hc
          go_wp2_with fail
          have HEr := Lib.hid (HE1.out.up hb)
          obtain ⟨g0, g1, g2⟩ := cell_fault hg
          have gl : g < wr.heap.size := (Array.getElem?_eq_some_iff.1 hg).1
          obtain ⟨tx, px, rfl⟩ := hc.iface
          obtain ⟨bo, oo, rfl, lo, co'⟩ := hO1.2.resolve_left (by omega)
          obtain ⟨ba, oa, rfl, la, ca'⟩ := hA1.2.resolve_left (by omega)
          have eo : wr.cell? ⟨bo, oo + k, none⟩ = some (.string es[k].1) := (hb.cell lo).trans (co' k _ (by simp [hlt]))
          have ea : wr.cell? ⟨ba, oa + k, none⟩ = some (.int .i64 es[k].2) := (hb.cell la).trans (ca' k _ (by simp [hlt]))
          have lo2 := Nat.lt_of_lt_of_le lo hb.size
          have la2 := Nat.lt_of_lt_of_le la hb.size
          have zz := hb.size
          have q0 : (0 : Int) ≤ (k : Int) := by omega
          have q1 : (k : Int) < (es.length : Int) := by omega
          clear co' ca' hg
          have HC := Lib.hid hc; clear hc
          have HY : Hid (¬ (y.1 = es[k].1 ∧ y.2 = es[k].2) → decide (l = es) = false) := fun hne => decide_eq_false fun e => by
            have h2 := HL.out.symm.trans e
            have h3 := congrArg (fun z => z[k]?) h2
            simp [hlt, Nat.min_eq_left (Nat.le_of_lt hlt)] at h3
            exact hne (by rw [← h3]; exact ⟨rfl, rfl⟩)
          have HN : Hid (y.1 = es[k].1 → y.2 = es[k].2 → l = es.take (k + 1) ++ r) := fun e1 e2 => by
            rw [HL.out, List.take_succ_eq_append_getElem hlt, List.append_assoc]
            congr 1
            simp only [List.singleton_append, List.cons.injEq, and_true]
            exact Prod.ext e1 e2
          generalize es[k] = z at *
          refine wp_region_any (by kernel_rfl) ?_
          refine wpAny_take (i := 0) (v := ?_) rfl (by kernel_rfl) (by kernel_rfl) (by kernel_rfl) (fun _ _ _ h => h) (Or.inl ⟨by rfl, ?_⟩) ?_
          rotate_left
          · intro w; go_simp; with_reducible rfl
          refine wpAny_take (i := 1) (v := ?_) rfl (by kernel_rfl) (by kernel_rfl) (by kernel_rfl) (fun _ _ _ h => h) (Or.inl ⟨by rfl, ?_⟩) ?_
          rotate_left
          · intro w; go_simp; with_reducible rfl
          refine wpAny_ready (rs := [2]) (by kernel_rfl) (by simp) ?_
          refine AllReady.cons rfl (fun K hK => ?_) AllReady.nil
          go_simp
          refine (as_var_hit _ wr HEr.out).mono ?_; rintro e w' ⟨rfl, hb2, hz2, ct⟩
          have d1 : w'.cell? ⟨g, 0, none⟩ = some (.string y.1) := (hb2.cell gl).trans g0
          have d2 : w'.cell? ⟨g, 1, none⟩ = some (.int .i64 y.2) := (hb2.cell gl).trans g1
          have d3 : w'.cell? ⟨g, 2, none⟩ = some (.iface tx (.pointer (some px))) := (hb2.cell gl).trans g2
          have d4 : w'.cell? ⟨W.heap.size, 0, none⟩ = some (.int .i64 N) := (hb2.cell (by show W.heap.size < _; omega)).trans c1
          have d5 : w'.cell? ⟨W.heap.size, 1, none⟩ = some (.slice (some ⟨bo, oo, none⟩) es.length co) := (hb2.cell (by show W.heap.size < _; omega)).trans c2
          have d6 : w'.cell? ⟨W.heap.size, 2, none⟩ = some (.slice (some ⟨ba, oa, none⟩) es.length ca) := (hb2.cell (by show W.heap.size < _; omega)).trans c3
          have d7 : w'.cell? ⟨bo, oo + k, none⟩ = some (.string z.1) := (hb2.cell lo2).trans eo
          have d8 : w'.cell? ⟨ba, oa + k, none⟩ = some (.int .i64 z.2) := (hb2.cell la2).trans ea
          clear g0 g1 g2 c1 c2 c3 eo ea
          refine hK _ _ ?_
          refine wpAny_quiet_from _ 3 rfl (by kernel_rfl) (by kernel_rfl) ?_
          by_cases e1 : y.1 = z.1
          · by_cases e2 : y.2 = z.2
            · have HN2 := Lib.hid (HN.out e1 e2)
              have b1 : (y.1.toList == z.1.toList) = true := by rw [e1]; simp
              have b2 : (y.2 == z.2) = true := by rw [e2]; simp
              clear HY HN e1 e2
              repeat (go_big_quiet_step (fail))
              refine wpQuiet_nil ?_
              intro _ hw'
              obtain ⟨nq, hw''⟩ := hw'
              subst hw''
              go_wp2
              go_roundw
              case rel => exact ⟨k + 1, r, by omega, by go_num, HN2.out, (HC.out.up hb2).up (bdrewN (bnil _) _), bdrewN (bstep hb hb2) _⟩
              case measure => simp [intOf]; omega
            · have HF := Lib.hid (HY.out (fun h => e2 h.2))
              have b1 : (y.1.toList == z.1.toList) = true := by rw [e1]; simp
              have b2 : (y.2 != z.2) = true := by simpa using e2
              clear HY HN e1 e2
              repeat (go_big_quiet_step (fail))
              refine wpQuiet_nil ?_
              intro _ hw'
              obtain ⟨nq, hw''⟩ := hw'
              subst hw''
              go_wp2
              go_ret
              rw [HF.out]
              exact ⟨rfl, bdrewN (bstep (bstep bw hb) hb2) _⟩
          · have HF := Lib.hid (HY.out (fun h => e1 h.1))
            have b1 : (y.1.toList == z.1.toList) = false := by
              rw [beq_eq_false_iff_ne]
              intro h
              apply e1
              rw [ByteArray.toList_eq, ByteArray.toList_eq] at h
              exact ByteArray.ext (Array.toList_inj.1 h)
            clear HY HN e1
            repeat (go_big_quiet_step (fail))
            refine wpQuiet_nil ?_
            intro _ hw'
            obtain ⟨nq, hw''⟩ := hw'
            subst hw''
            go_wp2
            go_ret
            rw [HF.out]
            exact ⟨rfl, bdrewN (bstep (bstep bw hb) hb2) _⟩
      · obtain rfl : k = es.length := by omega
        have HF : Hid (l = es ↔ r = []) := by
          have := HL.out
          rw [List.take_length] at this
          constructor
          · intro h; rw [h] at this; simpa using this
          · intro h; rw [this, h, List.append_nil]
        obtain ⟨i, hi, hcmp⟩ := Option.map_eq_some_iff.1 isComp
        obtain ⟨j, hj, hjs⟩ := Option.map_eq_some_iff.1 isSize
        have HGr := Lib.hid (HG1.out.up hb)
        cases r with
        | nil =>
          have HT := Lib.hid (decide_eq_true (HF.out.2 rfl))
          obtain ⟨rfl, _⟩ := hc
          have heq := run_eql_iface_ptr_same (P := Tryd.prog) wr (R (rix N)) Tryd.underlying27 Tryd.underlying199 hi hcmp hj
          go_wp2_with (first | (go_at_call 70; refine (rawRoot_any _ _ R HGr.out).mono ?_; rintro e w' ⟨rfl, rfl⟩))
          go_ret
          rw [HT.out]
          exact ⟨rfl, bstep bw hb⟩
        | cons y r =>
          have HN := Lib.hid (decide_eq_false fun h => by have := HF.out.1 h; cases this)
          obtain ⟨g, x, rfl, _, _⟩ := hc
          have hty := run_eql_iface_types (P := Tryd.prog) 117 199 (.pointer (some ⟨g, 0, none⟩)) (.pointer (some (R (rix N)))) Tryd.underlying27 (by decide) wr
          go_wp2_with (first | (go_at_call 70; refine (rawRoot_any _ _ R HGr.out).mono ?_; rintro e w' ⟨rfl, rfl⟩))
          go_ret
          rw [HN.out]
          exact ⟨rfl, bstep bw hb⟩
  · rintro e w' ⟨rfl, rfl⟩
    have hdd : decide (a = R (rix N)) = false := decide_eq_false ha
    have hpp : decide (a = R (rix N) ∧ l = es) = false := by simp [ha]
    rw [hdd]
    have HP := Lib.hid hpp
    clear hdd hpp ha
    go_wp2
    go_ret
    rw [HP.out]
    exact ⟨rfl, balloc (bnil _) _⟩
end Go.Proofs.YtocfkmdoalhjmaaDoor
