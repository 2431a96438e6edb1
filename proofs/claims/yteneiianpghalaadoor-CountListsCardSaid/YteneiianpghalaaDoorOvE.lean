/- overlap.Before: what it answers for a right rule and a right word. -/
import Derived.Test.YteneiianpghalaaDoorOvD
import Derived.Test.YteneiianpghalaaDoorOvN
import Derived.Deep.OwnRows
namespace Go.Proofs.YteneiianpghalaaDoor
open Go.RowKit
set_option linter.unusedVariables false
set_option maxRecDepth 100000

/-- the marks' rows: those ahead of j made -/
def rwP (n N : Nat) (gr : Nat → Nat) (j : Nat) : List Value := (List.range n).map fun i => if i < j then .slice (some ⟨gr i, 0, none⟩) N N else .slice none 0 0
theorem rwP_all (n N : Nat) (gr : Nat → Nat) : rwP n N gr n = rwv n N gr := List.map_congr_left fun i h => by rw [if_pos (List.mem_range.1 h)]
theorem rwP_set {n N j : Nat} (gr : Nat → Nat) (h : j < n) (g : Nat) : (rwP n N gr j).set j (.slice (some ⟨g, 0, none⟩) N N) = rwP n N (fun i => if i = j then g else gr i) (j + 1) := by
  apply List.ext_getElem
  · simp [rwP]
  · intro i h1 h2
    by_cases e : i = j
    · subst e; simp [rwP]
    · rw [List.getElem_set_ne fun q => e q.symm]
      simp only [rwP, List.getElem_map, List.getElem_range, if_neg e]
      by_cases h3 : i < j
      · rw [if_pos h3, if_pos (by omega)]
      · rw [if_neg h3, if_neg (by omega)]
theorem rwP_len (n N : Nat) (gr : Nat → Nat) (j : Nat) : (rwP n N gr j).length = n := by simp [rwP]
theorem made_list (z : Value) (n : Nat) : madeCells #[z] n = ((List.range n).map fun _ => z).toArray := by
  apply Array.ext
  · rw [size_madeCells]; simp
  · intro i h1 h2
    simp [madeCells, Nat.mod_one]
theorem mkRows (n N : Nat) (gr : Nat → Nat) (hb : n ≤ 32768) (w : World) : (Instr.makeSlice 103 (.int .i64 (n : Int)) (.int .i64 (n : Int))).run Tryd.prog w = .ok (.slice (some ⟨w.heap.size, 0, none⟩) n n) (w.alloc (.cells (rwP n N gr 0).toArray 106)) := by
  have h := run_make_row' (P := Tryd.prog) 103 106 (.slice none 0 0) 24 Tryd.underlying103 (by kernel_rfl) rfl .i64 .i64 n (by omega) (by omega) w
  rw [h, made_list]
  rfl
theorem mkBls (N : Nat) (hb : N ≤ 32768) (w : World) : (Instr.makeSlice 106 (.int .i64 (N : Int)) (.int .i64 (N : Int))).run Tryd.prog w = .ok (.slice (some ⟨w.heap.size, 0, none⟩) N N) (w.alloc (.cells (blv N fun _ => false).toArray 4)) := by
  have h := run_make_row' (P := Tryd.prog) 106 4 (.bool false) 1 Tryd.underlying106 (by kernel_rfl) rfl .i64 .i64 N (by omega) (by omega) w
  rw [h, made_list]
  rfl
theorem mkI0 (n : Nat) (hb : n ≤ 32768) (w : World) : (Instr.makeSlice 22 (.int .i64 (n : Int)) (.int .i64 (n : Int))).run Tryd.prog w = .ok (.slice (some ⟨w.heap.size, 0, none⟩) n n) (w.alloc (.cells (((List.range n).map fun _ => (0 : Int)).map (Value.int .i64)).toArray 3)) := by
  have h := run_make_row' (P := Tryd.prog) 22 3 (.int .i64 0) 8 Tryd.underlying22 (by kernel_rfl) rfl .i64 .i64 n (by omega) (by omega) w
  rw [h, made_list, List.map_map]
  rfl
variable {w w' : World} {B k r T cT n cw M gd ga N j : Nat} {aT aw : Option Addr} {gr : Nat → Nat}
/-- the state as the rows are made -/
structure DMake (w : World) (B k r : Nat) (aT : Option Addr) (T cT : Nat) (aw : Option Addr) (n cw M gd ga N : Nat) (gr : Nat → Nat) (j : Nat) : Prop where
  ds : w.heap[gd]? = some (.cells #[.int .i64 k, .int .i64 r, .slice aT T cT, .slice aw n cw, .slice (some ⟨ga, 0, none⟩) n n, .int .i64 M, .slice none 0 0, .bool false] 105)
  at_ : w.heap[ga]? = some (.cells (rwP n N gr j).toArray 106)
  rw_ : ∀ i, i < j → B ≤ gr i ∧ w.heap[gr i]? = some (.cells (blv N fun _ => false).toArray 4)
  inj : ∀ i i', i < j → i' < j → gr i = gr i' → i = i'
  lay : B ≤ gd ∧ B ≤ ga
theorem DMake.up (h : DMake w B k r aT T cT aw n cw M gd ga N gr j) (hb : Below w.heap.size w w') : DMake w' B k r aT T cT aw n cw M gd ga N gr j :=
  ⟨(hb.block _ (heap_ltO h.ds)).trans h.ds, (hb.block _ (heap_ltO h.at_)).trans h.at_, fun i hi => ⟨(h.rw_ i hi).1, (hb.block _ (heap_ltO (h.rw_ i hi).2)).trans (h.rw_ i hi).2⟩, h.inj, h.lay⟩
/-- a row is made and set -/
theorem DMake.set (h : DMake w B k r aT T cT aw n cw M gd ga N gr j) (hj : j < n) {g : Nat} (hg : B ≤ g) (hnew : ∀ i, i < j → gr i ≠ g) (hr : w.heap[g]? = some (.cells (blv N fun _ => false).toArray 4)) :
    DMake (w.setCell ⟨ga, j, none⟩ (.slice (some ⟨g, 0, none⟩) N N)) B k r aT T cT aw n cw M gd ga N (fun i => if i = j then g else gr i) (j + 1) := by
  have hgd : gd ≠ ga := fun e => by have q := h.ds; rw [e, h.at_] at q; simp at q
  have hga : g ≠ ga := fun e => by rw [e, h.at_] at hr; simp at hr
  refine ⟨?_, ?_, fun i hi => ?_, fun i i' hi hi' e => ?_, h.lay⟩
  · rw [Below.heap_setCell _ _ _ _ hgd]; exact h.ds
  · rw [← rwP_set gr hj g]
    simp [World.setCell, Array.getElem?_modify, h.at_]
  · by_cases e : i = j
    · subst e
      rw [if_pos rfl]
      exact ⟨hg, by rw [Below.heap_setCell _ _ _ _ hga]; exact hr⟩
    · rw [if_neg e]
      obtain ⟨h1, h2⟩ := h.rw_ i (by omega)
      have : gr i ≠ ga := fun e => by rw [e, h.at_] at h2; simp at h2
      exact ⟨h1, by rw [Below.heap_setCell _ _ _ _ this]; exact h2⟩
  · by_cases e1 : i = j <;> by_cases e2 : i' = j
    · omega
    · rw [if_pos e1, if_neg e2] at e; exact absurd e.symm (hnew i' (by omega))
    · rw [if_neg e1, if_pos e2] at e; exact absurd e (hnew i (by omega))
    · rw [if_neg e1, if_neg e2] at e; exact h.inj i i' (by omega) (by omega) e
theorem DMake.all (h : DMake w B k r aT T cT aw n cw M gd ga N gr n) : DLay B gd ga n gr ∧ DState w B k r aT T cT aw n cw M gd ga N gr (fun _ _ => false) none 0 0 false := by
  have ha := h.at_
  rw [rwP_all] at ha
  exact ⟨⟨h.lay.1, h.lay.2, fun i hi => (h.rw_ i hi).1, fun i j hi hj e => h.inj i j hi hj e⟩, ⟨h.ds, ha, fun i hi => (h.rw_ i hi).2, [], World.ownsRow_nil _ _ _ _⟩⟩
theorem rwP_at {n N j i : Nat} (gr : Nat → Nat) (h : i < n) : ∃ v, (rwP n N gr j)[i]? = some v := ⟨_, List.getElem?_eq_getElem (by rw [rwP_len]; exact h)⟩
theorem DMake.first (V : World) (B k r : Nat) (aT : Option Addr) (T cT : Nat) (aw : Option Addr) (n cw M N : Nat) (h : V.heap.size = B) :
    ∃ gd ga, Value.pointer (some ⟨V.heap.size + 1, 0, none⟩) = .pointer (some ⟨gd, 0, none⟩) ∧ DMake ((V.alloc (.cells (rwP n N (fun _ => 0) 0).toArray 106)).alloc (.cells #[.int .i64 k, .int .i64 r, .slice aT T cT, .slice aw n cw, .slice (some ⟨V.heap.size, 0, none⟩) n n, .int .i64 M, .slice none 0 0, .bool false] 105)).drew B k r aT T cT aw n cw M gd ga N (fun _ => 0) 0 ∧
      Below B V ((V.alloc (.cells (rwP n N (fun _ => 0) 0).toArray 106)).alloc (.cells #[.int .i64 k, .int .i64 r, .slice aT T cT, .slice aw n cw, .slice (some ⟨V.heap.size, 0, none⟩) n n, .int .i64 M, .slice none 0 0, .bool false] 105)).drew := by
  subst h
  refine ⟨_, V.heap.size, rfl, DMake.up (w := (V.alloc (.cells (rwP n N (fun _ => 0) 0).toArray 106)).alloc (.cells #[.int .i64 k, .int .i64 r, .slice aT T cT, .slice aw n cw, .slice (some ⟨V.heap.size, 0, none⟩) n n, .int .i64 M, .slice none 0 0, .bool false] 105)) ⟨?_, ?_, fun i hi => absurd hi (Nat.not_lt_zero i), fun i _ hi => absurd hi (Nat.not_lt_zero i), by omega, Nat.le_refl _⟩ (bnil _).drew, Below.drew (balloc (balloc (bnil V) _) _)⟩
  · show ((V.heap.push _).push _)[V.heap.size + 1]? = _
    simp [Array.getElem_push]
  · show ((V.heap.push _).push _)[V.heap.size]? = _
    simp [Array.getElem?_push]
/-- what the loops read of the rule's box and of the search -/
@[reducible] def SE (bx gd ga k r : Nat) (aT : Option Addr) (T cT n : Nat) (w : World) : Prop := w.cell? ⟨bx, 0, none⟩ = some (.int .i64 k) ∧ w.cell? ⟨bx, 1, none⟩ = some (.int .i64 r) ∧ w.cell? ⟨bx, 2, none⟩ = some (.slice aT T cT) ∧ w.cell? ⟨gd, 4, none⟩ = some (.slice (some ⟨ga, 0, none⟩) n n)
theorem SE.up {bx gd ga : Nat} (h : SE bx gd ga k r aT T cT n w) (hb : Below w.heap.size w w') : SE bx gd ga k r aT T cT n w' := ⟨cpW hb h.1, cpW hb h.2.1, cpW hb h.2.2.1, cpW hb h.2.2.2⟩
theorem SE.set {bx gd ga g : Nat} (h : SE bx gd ga k r aT T cT n w) (h1 : bx ≠ g) (h2 : gd ≠ g) (v : Value) : SE bx gd ga k r aT T cT n (w.setCell ⟨g, j, none⟩ v) := by
  unfold SE at h ⊢
  rw [World.cell?_setCell_far _ _ _ _ (fun e => h1 e.symm), World.cell?_setCell_far _ _ _ _ (fun e => h1 e.symm), World.cell?_setCell_far _ _ _ _ (fun e => h1 e.symm), World.cell?_setCell_far _ _ _ _ (fun e => h2 e.symm)]
  exact h
theorem DMake.se (h : DMake w B k r aT T cT aw n cw M gd ga N gr j) {V : World} {bx : Nat} (hb : Below B V w) (hx : bx < B) (h3 : V.cell? ⟨bx, 0, none⟩ = some (.int .i64 k) ∧ V.cell? ⟨bx, 1, none⟩ = some (.int .i64 r) ∧ V.cell? ⟨bx, 2, none⟩ = some (.slice aT T cT)) : SE bx gd ga k r aT T cT n w :=
  ⟨(hb.cell hx).trans h3.1, (hb.cell hx).trans h3.2.1, (hb.cell hx).trans h3.2.2, by simp [World.cell?, h.ds]⟩
theorem DMake.fz (h : DMake w B k r aT T cT aw n cw M gd ga N gr j) {i : Nat} (hi : i < n) : w.frozen? ⟨ga, i, none⟩ = false ∧ ∃ v, w.cell? ⟨ga, i, none⟩ = some v := by
  obtain ⟨v, hv⟩ := rwP_at (N := N) (j := j) gr hi
  exact ⟨by simp [World.frozen?, h.at_], v, by simp [World.cell?, h.at_, hv]⟩
theorem DMake.ne (h : DMake w B k r aT T cT aw n cw M gd ga N gr j) : gd ≠ ga := fun e => by have q := h.ds; rw [e, h.at_] at q; simp at q

theorem own_monoB {w : World} {base base' : Nat} {e : TypeId} {size : Nat} {v : Value} {n : Nat} {xs : List Value} (h : w.ownsRow base e size v n xs) (hb : base' ≤ base) : w.ownsRow base' e size v n xs := by
  rcases h with ⟨h0, h1 | ⟨g, c, cur, e1, h2, h3⟩⟩
  · exact ⟨h0, .inl h1⟩
  · exact ⟨h0, .inr ⟨g, c, cur, e1, Nat.le_trans hb h2, h3⟩⟩
theorem sumTo_up (f : Nat → Nat) : ∀ {i n : Nat}, i ≤ n → sumTo i f ≤ sumTo n f
  | i, 0, h => by
    obtain rfl : i = 0 := by omega
    exact Nat.le_refl _
  | i, n + 1, h => by
    by_cases e : i = n + 1
    · rw [e]; exact Nat.le_refl _
    · exact Nat.le_trans (sumTo_up f (n := n) (by omega)) (Nat.le_add_right _ _)

set_option maxHeartbeats 8000000 in
theorem Before_ok (k r N : Nat) (aT aw : Option Addr) (T cT n cw M : Nat) (tb wl : List Int) (W : World) (R : Nat → Addr) (hG : Glob W R) (hTR : RK .i64 W aT T tb) (hWR : RK .i64 W aw n wl) (hI : IsRule k r tb) (hT : T ≤ 256) (hn : n ≤ 256) (hM : M ≤ 256) (hwl : ∀ x ∈ wl, 0 ≤ x ∧ x < (k : Int)) (hTc : T ≤ cT) (hN : N = k ^ (2 * r)) :
    Calls Tryd.prog 12 #[ruleV k r aT T cT, .slice aw n cw, .int .i64 (M : Int)] W fun e w' => Below W.heap.size W w' ∧ ∃ (al : Option Addr) (L cl : Nat) (more : Bool), e = .returned (.tuple #[.slice al L cl, .bool more, .nilIface]) ∧ ((wordsC k N tb wl ≤ M ∧ L = wordsC k N tb wl ∧ more = false) ∨ (M < wordsC k N tb wl ∧ L = M ∧ more = true)) := by
  have k1 := hI.k1
  have k4 := hI.k4
  have r3 := hI.r3
  have hTN : T = N * k := by rw [hN]; exact (hI.nodes hTR.len).1
  have hN0 : 0 < N := by rw [hN]; exact Nat.pow_pos k1
  have hN256 : N ≤ 256 := by have h1 : N * 1 ≤ N * k := Nat.mul_le_mul_left _ k1; omega
  have HG := Lib.hid hG; clear hG
  have HTR := Lib.hid hTR; clear hTR
  have HWR := Lib.hid hWR; clear hWR
  have HI := Lib.hid hI; clear hI
  have HWL := Lib.hid hwl; clear hwl
  have HTN := Lib.hid hTN; clear hTN
  have HN := Lib.hid hN; clear hN
  obtain ⟨Wb, hWb⟩ : ∃ Wb, W.alloc (.cells #[.int .i64 k, .int .i64 r, .slice aT T cT] 24) = Wb := ⟨_, rfl⟩
  have HX : Hid (Wb.cell? ⟨W.heap.size, 0, none⟩ = some (.int .i64 k) ∧ Wb.cell? ⟨W.heap.size, 1, none⟩ = some (.int .i64 r) ∧ Wb.cell? ⟨W.heap.size, 2, none⟩ = some (.slice aT T cT)) := by rw [← hWb]; exact ⟨by simp, by simp, by simp⟩
  have HSZ : Hid (W.heap.size < Wb.heap.size) := by show _ < _; rw [← hWb]; simp
  have HBX : Hid (Below W.heap.size W Wb) := by rw [← hWb]; exact balloc (bnil W) _
  have HWB := Lib.hid hWb; clear hWb
  go_enter Tryd.func12, Tryd.ntmps12
  go_wp2_with fail
  rw [HWB.out]
  refine (ocheck_any k r aT aw T cT n cw 256 tb wl Wb R (HG.out.up HBX.out) (HTR.out.up HBX.out) (HWR.out.up HBX.out) (by unfold maxLen; omega) (by unfold maxLen; omega) (by omega)).mono ?_
  rintro e V (⟨_, rfl, hbv⟩ | ⟨hno, _⟩)
  rotate_left
  · exact absurd ⟨⟨k, r, rfl, rfl, HI.out, hT⟩, hn, HWL.out⟩ hno
  obtain ⟨bx, hbx⟩ : ∃ bx, W.heap.size = bx := ⟨_, rfl⟩
  have HBW : Hid (Below W.heap.size W V) := HBX.out.trans (hbv.mono HBX.out.size)
  obtain ⟨B, hB⟩ : ∃ B, V.heap.size = B := ⟨_, rfl⟩
  have HXV : Hid (V.cell? ⟨bx, 0, none⟩ = some (.int .i64 k) ∧ V.cell? ⟨bx, 1, none⟩ = some (.int .i64 r) ∧ V.cell? ⟨bx, 2, none⟩ = some (.slice aT T cT)) := by rw [← hbx]; exact ⟨(hbv.cell HSZ.out).trans HX.out.1, (hbv.cell HSZ.out).trans HX.out.2.1, (hbv.cell HSZ.out).trans HX.out.2.2⟩
  have HBB : Hid (bx < B) := by rw [← hbx, ← hB]; exact Nat.lt_of_lt_of_le HSZ.out hbv.size
  have HTV : Hid (RK .i64 V aT T tb) := HTR.out.up HBW.out
  have HWV : Hid (RK .i64 V aw n wl) := HWR.out.up HBW.out
  have HVB := Lib.hid hB
  have HBXE := Lib.hid hbx
  have hcm : T ≤ 256 := hT
  clear hbv
  have x0 := HXV.out.1
  have x1 := HXV.out.2.1
  have x2 := HXV.out.2.2
  have hmk := mkRows n N (fun _ => 0) (by omega)
  have hM0 : (0 : Int) ≤ (M : Int) := by omega
  have hM1 : (M : Int) ≤ 256 := by omega
  clear hB hbx
  rw [HBXE.out]
  go_wp2_with fail
  have HNA := Lib.hid (balloc (bnil V) (.cells (rwP n N (fun _ => 0) 0).toArray 106))
  have hxs : bx < V.heap.size := by rw [HVB.out]; exact HBB.out
  have d0 := (HNA.out.cell (p := ⟨bx, 0, none⟩) hxs).trans x0
  have d1 := (HNA.out.cell (p := ⟨bx, 1, none⟩) hxs).trans x1
  have d2 := (HNA.out.cell (p := ⟨bx, 2, none⟩) hxs).trans x2
  clear hxs
  go_cut [10] from 38 (fun vd wx => ∃ gd ga, vd = .pointer (some ⟨gd, 0, none⟩) ∧ DMake wx B k r aT T cT aw n cw M gd ga N (fun _ => 0) 0 ∧ Below B V wx)
  case first =>
    go_region
    all_goals
      go_wp2_with fail
      go_meet
    all_goals exact DMake.first V B k r aT T cT aw n cw M N HVB.out
  case rest =>
    rename_i vd w1
    obtain ⟨gd, ga, rfl, hd0, hb1⟩ := hcut
    have c4 := (hd0.se hb1 HBB.out HXV.out).2.2.2
    clear x0 x1 x2 d0 d1 d2 hmk
    have HD0 := Lib.hid hd0
    have HB1 := Lib.hid hb1
    clear hd0 hb1
    go_wp2_with fail
    clear c4
    go_loopw [43] (fun jx wr => ∃ (j : Nat) (gr : Nat → Nat), j ≤ n ∧ jx = .int .i64 j ∧ DMake wr B k r aT T cT aw n cw M gd ga N gr j ∧ Below B V wr) (fun jx _ => n - (intOf jx).toNat)
    case atStart => exact ⟨0, fun _ => 0, by omega, rfl, HD0.out, HB1.out⟩
    case round =>
      obtain ⟨j, gr, hj, rfl, hd, hb⟩ := hrel
      have hse := hd.se hb HBB.out HXV.out
      have HD := Lib.hid hd
      have HBL := Lib.hid hb
      have hne := hd.ne
      have hbd : B ≤ wr.heap.size := by rw [← HVB.out]; exact hb.size
      by_cases hjn : j < n
      · have hmk := mkBls N (by omega)
        have hjI : (j : Int) < (n : Int) := by omega
        have hjI0 : (0 : Int) ≤ (j : Int) := by omega
        have fz := (hd.fz hjn).1
        obtain ⟨v0, cv0⟩ := (hd.fz hjn).2
        have SR := Lib.hid hse
        have SD := Lib.hid (hse.up (bnil wr).drew)
        have HNX : Hid (bx ≠ ga) := by have := HBB.out; have := hd.lay.2; show _ ≠ _; omega
        have HNE := Lib.hid hne
        clear hd hb hse hne
        go_wp2_with fail
        go_region_held3 (fun w' => w'.cell? ⟨bx, 0, none⟩ = some (.int .i64 k) ∧ w'.cell? ⟨bx, 1, none⟩ = some (.int .i64 r) ∧ w'.cell? ⟨bx, 2, none⟩ = some (.slice aT T cT) ∧ w'.cell? ⟨gd, 4, none⟩ = some (.slice (some ⟨ga, 0, none⟩) n n))
          (first | with_reducible exact SS.out | with_reducible exact SA.out | with_reducible exact SN.out | with_reducible exact SD.out | with_reducible exact SR.out | go_keep)
          (first
            | (go_at_call 61; (with_reducible refine (nodes_any k r N aT T cT _ k1 HTN.out (by omega)).mono ?_); rintro e9 wn ⟨rfl, hbn⟩; have HNB : Hid (Below wr.heap.size wr wn) := (by first | exact (bnil wr).drew.trans hbn | exact hbn); have HAB := Lib.hid (balloc HNB.out (.cells (blv N fun _ => false).toArray 4)); have SN := Lib.hid (SR.out.up HNB.out); have SA := Lib.hid (SR.out.up HAB.out); have SS := Lib.hid ((SR.out.up HAB.out).set (j := j) HNX.out HNE.out (.slice (some ⟨wn.heap.size, 0, none⟩) N N)); have fz2 := ((HD.out.up HAB.out).fz hjn).1; obtain ⟨v1, cv1⟩ := ((HD.out.up HAB.out).fz hjn).2; clear hbn))
        have hdn := (HD.out.up HAB.out).set hjn (g := wn.heap.size) (Nat.le_trans hbd HNB.out.size) (fun i hi => by have := heap_ltO (HD.out.rw_ i hi).2; have := HNB.out.size; omega) (heap_alloc_new wn _)
        have hbn2 : Below B V ((wn.alloc (.cells (blv N fun _ => false).toArray 4)).setCell ⟨ga, j, none⟩ (.slice (some ⟨wn.heap.size, 0, none⟩) N N)) := (HBL.out.trans (HAB.out.mono hbd)).setCell (p := ⟨ga, j, none⟩) HD.out.lay.2 _
        go_wp2
        go_roundw
        case rel => exact ⟨j + 1, _, hjn, by go_num, hdn, hbn2⟩
        case measure => simp [intOf]; omega
      · obtain rfl : n = j := by omega
        obtain ⟨hy, hds⟩ := hd.all
        have HY := Lib.hid hy
        have HDS := Lib.hid hds
        have x1 := hse.2.1
        have hmk := mkI0 (2 * r) (by omega)
        have e2r : ((2 * r : Nat) : Int) = 2 * (r : Int) := by omega
        rw [e2r] at hmk
        have h2r : IntKind.i64.wrap (2 * (r : Int)) = 2 * (r : Int) := IntWalk.i64_in _ (by omega)
        have h2n : (0 : Int) ≤ 2 * (r : Int) := by omega
        obtain ⟨ZC, hZC⟩ : ∃ ZC, (((List.range (2 * r)).map fun _ => (0 : Int)).map (Value.int .i64)).toArray = ZC := ⟨_, rfl⟩
        rw [hZC] at hmk
        obtain ⟨w2, hw2⟩ : ∃ w2, wr.alloc (.cells ZC 3) = w2 := ⟨_, rfl⟩
        have HB2 : Hid (Below wr.heap.size wr w2) := by rw [← hw2]; exact balloc (bnil wr) _
        have HX2 : Hid (XOwn w2 B (some ⟨wr.heap.size, 0, none⟩) (2 * r) (2 * r)) := ⟨(List.range (2 * r)).map fun _ => (0 : Int), by rw [← hw2, ← hZC]; exact own_lit rfl hbd (by unfold maxLen; omega) (by simp)⟩
        have HW2 := Lib.hid hw2
        clear hd hb hy hds hw2 hZC
        go_wp2_with fail
        rw [HW2.out]
        have HD2 := Lib.hid (HDS.out.up HB2.out)
        have HBL2 : Hid (Below B V w2) := HBL.out.trans (HB2.out.mono hbd)
        clear HD HDS HBL HB2 HW2 x1 hmk hse hbd hne HD0 HB1 HNA e2r h2n h2r
        go_loopw [12, 13] (fun bv ux wr => ∃ (u : Nat) (D : Nat → Nat → Bool) (al : Option Addr) (L cl : Nat) (more : Bool) (ab : Option Addr) (nb cb : Nat), u ≤ N ∧ ux = .int .i64 u ∧ bv = .slice ab nb cb ∧ nb ≤ 6 + u ∧ DState wr B k r aT T cT aw n cw M gd ga N gr D al L cl more ∧ XOwn wr B ab nb cb ∧ Below B V wr ∧ (∀ i u, i < n → u < N → D i u = true → wayL k N tb (wl.drop i) u = 0) ∧ ((sumTo u (wayL k N tb wl) ≤ M ∧ L = sumTo u (wayL k N tb wl) ∧ more = false) ∨ (M < sumTo u (wayL k N tb wl) ∧ L = M ∧ more = true))) (fun _ ux _ => N - (intOf ux).toNat)
        case atStart => exact ⟨0, _, none, 0, 0, false, _, 2 * r, 2 * r, by omega, rfl, rfl, by omega, HD2.out, HX2.out, HBL2.out, fun _ _ _ _ h => (by cases h), .inl ⟨Nat.zero_le _, rfl, rfl⟩⟩
        case round =>
          clear hj hjn HD2 HX2 HBL2
          obtain ⟨u, D, al, L, cl, more, ab, nb, cb, hu, rfl, rfl, hnb, hd, hx, hb, hdd, hcase⟩ := hrel
          have hbd : B ≤ wr.heap.size := by rw [← HVB.out]; exact hb.size
          obtain ⟨c0, c1, c2, c3, c4, c5, c6, c7, fz⟩ := hd.cells
          have HD := Lib.hid hd
          have HXX := Lib.hid hx
          have HBL := Lib.hid hb
          have HDD := Lib.hid hdd
          have x0 := (hb.cell HBB.out).trans HXV.out.1
          have x1 := (hb.cell HBB.out).trans HXV.out.2.1
          have x2 := (hb.cell HBB.out).trans HXV.out.2.2
          clear hd hx hb hdd c0 c1 c2 c3 c4 c5 c6 fz
          go_wp2_with fail
          refine (nodes_any k r N aT T cT _ k1 HTN.out (by omega)).mono ?_; rintro e wn ⟨rfl, hbn⟩
          have c7n := cpW hbn c7
          have c4n : wn.cell? ⟨gd, 4, none⟩ = wn.cell? ⟨gd, 4, none⟩ := rfl
          have HDN := Lib.hid (HD.out.up hbn)
          have HXN := Lib.hid (HXX.out.up hbn)
          have HBN : Hid (Below B V wn) := HBL.out.trans (hbn.mono hbd)
          have hbdn : B ≤ wn.heap.size := by rw [← HVB.out]; exact HBN.out.size
          clear hbn c7 c4n x0 x1 x2 HD HXX HBL hbd
          by_cases hgo : u < N ∧ more = false
          · obtain ⟨huN, rfl⟩ := hgo
            have huI : (u : Int) < (N : Int) := by omega
            obtain ⟨hsum, hLs⟩ : sumTo u (wayL k N tb wl) ≤ M ∧ L = sumTo u (wayL k N tb wl) := by
              rcases hcase with ⟨h1, h2, _⟩ | ⟨_, _, h3⟩
              · exact ⟨h1, h2⟩
              · cases h3
            go_wp2_with fail
            have h0 := on_all V B k r T cT n cw M gd ga N aT aw gr tb wl k1 k4 hN0 HTN.out hT hTc hn hM HVB.out HTV.out HWV.out HY.out n 0 (by omega) wn D ab nb cb u al L cl huN (by omega) (by omega) HBN.out hbdn HDN.out HXN.out HDD.out
            rw [show ((0 : Nat) : Int) = 0 from rfl, List.drop_zero] at h0
            refine h0.mono ?_
            clear h0
            rintro e w3 ⟨D', al', L', cl', more', b, rfl, hd', hx', hk', hdd', hcase'⟩
            have HD3 := Lib.hid hd'
            have HX3 := Lib.hid hx'
            have HB3 : Hid (Below B V w3) := HBN.out.trans hk'.below
            have hbd3 : B ≤ w3.heap.size := by rw [← HVB.out]; exact HB3.out.size
            have HDD3 := Lib.hid hdd'
            have HC3 : Hid ((sumTo (u + 1) (wayL k N tb wl) ≤ M ∧ L' = sumTo (u + 1) (wayL k N tb wl) ∧ more' = false) ∨ (M < sumTo (u + 1) (wayL k N tb wl) ∧ L' = M ∧ more' = true)) := by
              show (sumTo u (wayL k N tb wl) + wayL k N tb wl u ≤ M ∧ L' = sumTo u (wayL k N tb wl) + wayL k N tb wl u ∧ more' = false) ∨ (M < sumTo u (wayL k N tb wl) + wayL k N tb wl u ∧ L' = M ∧ more' = true)
              rw [← hLs]
              rcases hcase' with ⟨q1, q2, q3, _⟩ | ⟨q1, q2, q3, _⟩
              · exact .inl ⟨q1, q2, q3⟩
              · exact .inr ⟨q1, q2, q3⟩
            have x0 := (HB3.out.cell HBB.out).trans HXV.out.1
            have x1 := (HB3.out.cell HBB.out).trans HXV.out.2.1
            have h2r : IntKind.i64.wrap (2 * (r : Int)) = 2 * (r : Int) := IntWalk.i64_in _ (by omega)
            clear hd' hx' hk' hdd' hcase' hcase hsum hLs HDN HXN HBN HDD c7n
            by_cases hr0 : r = 0
            · have hrI : ¬ (0 : Int) < 2 * (r : Int) := by omega
              clear hr0
              go_wp2
              go_roundw
              case rel => exact ⟨u + 1, D', al', L', cl', more', ab, nb, cb, huN, by go_num, rfl, by omega, HD3.out, HX3.out, HB3.out, HDD3.out, HC3.out⟩
              case measure => simp [intOf]; omega
            · have hrI : (0 : Int) < 2 * (r : Int) := by omega
              obtain ⟨lb, hob⟩ := HX3.out
              obtain ⟨q1, q2, q3⟩ := own_cap hob
              have HRB : Hid (RK .i64 w3 ab nb lb) := RK.of_own hob
              clear hob
              go_wp2_with fail
              refine (next_whatever (k : Int) ab nb cb lb _ R (HG.out.up (HBW.out.trans (HB3.out.mono (by rw [HBXE.out]; exact Nat.le_of_lt HBB.out)))) HRB.out (by omega) q1 q2 q3).mono ?_
              rintro e w4 ⟨hb4, ⟨g, rfl⟩ | ⟨a', n', c', rfl, hn', hx4⟩⟩
              · have HD4 := Lib.hid (HD3.out.up hb4)
                have HX4 := Lib.hid (HX3.out.up hb4)
                have HB4 : Hid (Below B V w4) := HB3.out.trans (hb4.mono hbd3)
                go_wp2
                go_roundw
                case rel => exact ⟨u + 1, D', al', L', cl', more', ab, nb, cb, huN, by go_num, rfl, by omega, HD4.out, HX4.out, HB4.out, HDD3.out, HC3.out⟩
                case measure => simp [intOf]; omega
              · have HD4 := Lib.hid (HD3.out.up hb4)
                have HX4 : Hid (XOwn w4 B a' n' c') := by obtain ⟨l4, ho4⟩ := hx4; exact ⟨l4, own_monoB ho4 hbd3⟩
                have HB4 : Hid (Below B V w4) := HB3.out.trans (hb4.mono hbd3)
                clear hx4
                go_wp2
                go_roundw
                case rel => exact ⟨u + 1, D', al', L', cl', more', a', n', c', huN, by go_num, rfl, by omega, HD4.out, HX4.out, HB4.out, HDD3.out, HC3.out⟩
                case measure => simp [intOf]; omega
          · have hfin : Hid ((wordsC k N tb wl ≤ M ∧ L = wordsC k N tb wl ∧ more = false) ∨ (M < wordsC k N tb wl ∧ L = M ∧ more = true)) := by
              show _ ∨ _
              rw [wordsC_wayL]
              have hle : sumTo u (wayL k N tb wl) ≤ sumTo N (wayL k N tb wl) := sumTo_up _ hu
              rcases hcase with ⟨q1, q2, q3⟩ | ⟨q1, q2, q3⟩
              · have : u = N := by
                  by_cases e : u = N
                  · exact e
                  · exact absurd ⟨by omega, q3⟩ hgo
                rw [this] at q1 q2
                exact .inl ⟨q1, q2, q3⟩
              · exact .inr ⟨by omega, q2, q3⟩
            have HFB : Hid (Below W.heap.size W wn) := HBW.out.trans (HBN.out.mono (by rw [HBXE.out]; exact Nat.le_of_lt HBB.out))
            obtain ⟨c0, c1, c2, c3, c4, c5, c6, c7, fz⟩ := HDN.out.cells
            clear c0 c1 c2 c3 c4 c5 fz c7
            by_cases huN : u < N
            · have huI : (u : Int) < (N : Int) := by omega
              cases hm : more with
              | false => exact absurd ⟨huN, hm⟩ hgo
              | true =>
                subst hm
                go_wp2_with fail
                go_quiet (fail)
                go_wp2
                go_ret3
                exact ⟨bdrewN HFB.out nq, al, L, cl, true, rfl, by have q := hfin.out; simpa using q⟩
            · have huI : ¬ (u : Int) < (N : Int) := by omega
              go_wp2_with fail
              go_quiet (fail)
              go_wp2
              go_ret3
              exact ⟨bdrewN HFB.out nq, al, L, cl, more, rfl, hfin.out⟩
end Go.Proofs.YteneiianpghalaaDoor
