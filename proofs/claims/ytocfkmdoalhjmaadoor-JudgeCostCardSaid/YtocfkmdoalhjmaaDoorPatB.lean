/- The contract of patch.made. -/
import Derived.Test.YtocfkmdoalhjmaaDoorPatA
import Derived.Test.YtocfkmdoalhjmaaDoorOwn
import Derived.Deep.RegionHeld3
namespace Go.Proofs.YtocfkmdoalhjmaaDoor
open Go.RowKit
set_option linter.unusedVariables false
set_option maxRecDepth 100000

/-- the cells as far as they have been told -/
def madeS (w N : Nat) (f : Nat → Nat → Int) (i : Nat) : List Int := ((List.range i).map fun j => f (j % w) (j / w)) ++ List.replicate (N - i) 0
theorem madeS_len {w N i : Nat} {f : Nat → Nat → Int} (h : i ≤ N) : (madeS w N f i).length = N := by simp [madeS]; omega
theorem madeS_set {w N i : Nat} {f : Nat → Nat → Int} (h : i < N) : ((madeS w N f i).map (Value.int .i64)).set i (.int .i64 (f (i % w) (i / w))) = (madeS w N f (i + 1)).map (Value.int .i64) := by
  rw [← List.map_set]
  congr 1
  unfold madeS
  rw [List.set_append_right _ _ (by simp)]
  simp only [List.length_map, List.length_range, Nat.sub_self]
  rw [show N - i = (N - (i + 1)) + 1 by omega, List.replicate_succ, List.set_cons_zero, List.range_succ, List.map_append, List.append_assoc]
  rfl
theorem madeS_all {w h : Nat} {f : Nat → Nat → Int} : madeS w (w * h) f (w * h) = madeL w h f := by simp [madeS, madeL]
theorem made_i64p (n : Nat) : (madeCells (Value.int .i64 0).cells (n * 1)).toList = (List.replicate n (0 : Int)).map (Value.int .i64) := by
  rw [show (Value.int .i64 0).cells = #[.int .i64 0] from by rfl, toList_madeCells_one]
  simp
theorem cell_set1 {w : World} {b o g j : Nat} {v u : Value} (h : w.cell? ⟨b, o, none⟩ = some v) (hne : b ≠ g) : (w.setCell ⟨g, j, none⟩ u).cell? ⟨b, o, none⟩ = some v := by
  rw [World.cell?_of_block (w := w)]
  · exact h
  · exact Below.heap_setCell _ _ _ _ hne
theorem own_of_heap' {w w' : World} {base sz n : Nat} {e : TypeId} {v : Value} {cs : List Value} (h : w.ownsRow base e sz v n cs) (hh : ∀ b, v.ownBlock = some b → w'.heap[b]? = w.heap[b]?) : w'.ownsRow base e sz v n cs := by
  refine ⟨h.1, ?_⟩
  rcases h.2 with hn | ⟨g, cap, cur, rfl, hbg, hg, rest⟩
  · exact .inl hn
  · exact .inr ⟨g, cap, cur, rfl, hbg, by rw [hh g rfl]; exact hg, rest⟩
theorem set3p {w : World} {g : Nat} {x0 x1 x2 : Value} {t : TypeId} {fr : Nat × Nat} (h : w.heap[g]? = some (.cells #[x0, x1, x2] t fr)) (u0 u1 u2 : Value) :
    ∃ w6, (((w.setCell ⟨g, 0, none⟩ u0).setCell ⟨g, 1, none⟩ u1).setCell ⟨g, 2, none⟩ u2) = w6 ∧ (w6.cell? ⟨g, 0, none⟩ = some u0 ∧ w6.cell? ⟨g, 1, none⟩ = some u1 ∧ w6.cell? ⟨g, 2, none⟩ = some u2) ∧ (∀ k, k ≠ g → w6.heap[k]? = w.heap[k]?) ∧ w6.heap.size = w.heap.size ∧ ∀ (V : World) (B : Nat), B ≤ g → Below B V w → Below B V w6 := by
  refine ⟨_, rfl, ?_, fun k hk => ?_, ?_, fun V B hB hb => ?_⟩
  · simp [World.cell?, World.setCell, Array.getElem?_modify, h]
  · rw [Below.heap_setCell _ _ _ _ hk, Below.heap_setCell _ _ _ _ hk, Below.heap_setCell _ _ _ _ hk]
  · simp [World.setCell]
  · exact ((hb.setCell (p := ⟨g, 0, none⟩) hB u0).setCell (p := ⟨g, 1, none⟩) hB u1).setCell (p := ⟨g, 2, none⟩) hB u2
theorem p_cells {w : World} {g : Nat} {x0 x1 x2 : Value} {t : TypeId} (h : w.heap[g]? = some (.cells #[x0, x1, x2] t)) : (w.cell? ⟨g, 0, none⟩ = some x0 ∧ w.cell? ⟨g, 1, none⟩ = some x1 ∧ w.cell? ⟨g, 2, none⟩ = some x2) ∧ w.frozen? ⟨g, 0, none⟩ = false ∧ w.frozen? ⟨g, 1, none⟩ = false ∧ w.frozen? ⟨g, 2, none⟩ = false := by
  simp [World.cell?, World.frozen?, h]
/-- a function value's contract: the cell at a place -/
def CellOf (F : Nat) (cap : Array Value) (w h : Nat) (f : Nat → Nat → Int) (W : World) : Prop :=
  ∀ (W' : World) (x y : Nat), Below W.heap.size W W' → x < w → y < h → Calls Tryd.prog F (#[.int .i64 x, .int .i64 y] ++ cap) W' fun e w' => e = .returned (.int .i64 (f x y)) ∧ Below W'.heap.size W' w'

set_option maxHeartbeats 8000000 in
theorem made_any (w h F : Nat) (cap : Array Value) (f : Nat → Nat → Int) (W : World) (w1 : 1 ≤ w) (w2 : w ≤ 1000) (h1 : 1 ≤ h) (h2 : h ≤ 1000) (hE : ∀ args w, (callFunc F args).run Tryd.prog w = .ok (.enter F args) w) (hF : CellOf F cap w h f W) :
    Calls Tryd.prog 61 #[.int .i64 w, .int .i64 h, .func (.func F) #[] cap] W fun e w' => ∃ g c', e = .returned (patV w h (some ⟨g, 0, none⟩) (w * h) c') ∧ OwI w' W.heap.size (some ⟨g, 0, none⟩) (w * h) c' (madeL w h f) ∧ Below W.heap.size W w' := by
  have HF := Lib.hid hF; clear hF
  obtain ⟨N, hN⟩ : ∃ N, w * h = N := ⟨_, rfl⟩
  have hN4 : N ≤ 1000000 := by rw [← hN]; exact Nat.mul_le_mul w2 h2
  have hNI : (w : Int) * (h : Int) = (N : Int) := by rw [← hN, Int.natCast_mul]
  have hNw : IntKind.i64.wrap (N : Int) = (N : Int) := IntWalk.i64_in _ (by omega)
  have hall : madeS w N f N = madeL w h f := by rw [← hN]; exact madeS_all
  have HALL := Lib.hid hall
  have HNN := Lib.hid hN
  rw [hN]
  clear hall hN
  obtain ⟨Wb, hWb⟩ : ∃ Wb, W.alloc (.cells #[.int .i64 0, .int .i64 0, .slice none 0 0] 24) = Wb := ⟨_, rfl⟩
  have HZ : Hid (Wb.heap[W.heap.size]? = some (.cells #[.int .i64 0, .int .i64 0, .slice none 0 0] 24)) := by show _ = _; rw [← hWb]; exact heap_alloc_new W _
  have HBX : Hid (Below W.heap.size W Wb) := by rw [← hWb]; exact balloc (bnil W) _
  have HSZ : Hid (Wb.heap.size = W.heap.size + 1) := by show _ = _; rw [← hWb]; simp
  have HWB := Lib.hid hWb; clear hWb
  obtain ⟨g, hg⟩ : ∃ g, Wb.heap.size = g := ⟨_, rfl⟩
  have HGS := Lib.hid hg
  go_enter Tryd.func61, Tryd.ntmps61
  go_wp2_with (first
    | (at_make; rw [HWB.out]; refine mk_full rfl _ _ _ rfl W.heap.size et_int .i64 .i64 _ _ N rfl rfl rfl rfl (by omega) (by unfold maxLen; omega) HBX.out.size ?_; intro w1' hown1 hb1 hsz1; rw [made_i64p] at hown1))
  rw [hg] at hown1
  have HST : Hid (w1'.ownsRow W.heap.size 3 1 (.slice (some ⟨g, 0, none⟩) N N) N ((madeS w N f 0).map (Value.int .i64))) := by
    show World.ownsRow _ _ _ _ _ _ _
    simpa [madeS] using hown1
  obtain ⟨Wc, hWc⟩ : ∃ Wc, w1'.alloc (.cells #[.int .i64 w, .int .i64 h, .slice (some ⟨g, 0, none⟩) N N] 24) = Wc := ⟨_, rfl⟩
  have hbc : Below w1'.heap.size w1' Wc := by rw [← hWc]; exact balloc (bnil w1') _
  have HC2 : Hid (Wc.cell? ⟨w1'.heap.size, 0, none⟩ = some (.int .i64 w) ∧ Wc.cell? ⟨w1'.heap.size, 1, none⟩ = some (.int .i64 h) ∧ Wc.cell? ⟨w1'.heap.size, 2, none⟩ = some (.slice (some ⟨g, 0, none⟩) N N)) := by rw [← hWc]; exact ⟨by simp, by simp, by simp⟩
  have HO0 := Lib.hid (owns_up HST.out hbc)
  have HB0 := Lib.hid (hb1.trans (hbc.mono hb1.size))
  have hgv : g ≠ w1'.heap.size := by rw [hg] at hsz1; omega
  rw [hWc]
  obtain ⟨v, hv⟩ : ∃ v, w1'.heap.size = v := ⟨_, rfl⟩
  rw [hv] at HC2 hgv ⊢
  have HVL : Hid (Wb.heap.size < v) := by show _ < _; rw [← hv]; exact hsz1
  clear HST hWc hbc hb1 hsz1 hv hown1 hg
  go_loopw [8, 19] (fun _ ix wr => ∃ i : Nat, i ≤ N ∧ ix = .int .i64 i ∧ wr.ownsRow W.heap.size 3 1 (.slice (some ⟨g, 0, none⟩) N N) N ((madeS w N f i).map (Value.int .i64)) ∧ (wr.cell? ⟨v, 0, none⟩ = some (.int .i64 w) ∧ wr.cell? ⟨v, 1, none⟩ = some (.int .i64 h) ∧ wr.cell? ⟨v, 2, none⟩ = some (.slice (some ⟨g, 0, none⟩) N N)) ∧ Below Wb.heap.size Wb wr) (fun _ ix _ => N - (intOf ix).toNat)
  case atStart => exact ⟨0, by omega, rfl, HO0.out, HC2.out, HB0.out⟩
  case round =>
    clear HO0 HC2 HB0
    obtain ⟨i, hi, rfl, ho, hc, hb⟩ := hrel
    have HO := Lib.hid ho
    have HC := Lib.hid hc
    have HB := Lib.hid hb
    clear ho hc hb
    by_cases hin : i < N
    · obtain ⟨X, hX⟩ : ∃ X, i % w = X := ⟨_, rfl⟩
      obtain ⟨Y, hY⟩ : ∃ Y, i / w = Y := ⟨_, rfl⟩
      have hXw : X < w := by rw [← hX]; exact Nat.mod_lt _ (by omega)
      have hYh : Y < h := by rw [← hY]; exact div_lt_of (by omega) (by rw [HNN.out]; exact hin)
      have hcell := HO.out.cellAt i (by omega)
      obtain ⟨u, hu⟩ : ∃ u, wr.cell? ⟨g, i, none⟩ = some u := by
        rw [hcell]
        have : i < ((madeS w N f i).map (Value.int .i64)).length := by rw [List.length_map, madeS_len hi]; exact hin
        exact ⟨_, List.getElem?_eq_getElem this⟩
      have f0 := HO.out.frozenAt i
      have hgl : g < wr.heap.size := own_lt HO.out g rfl
      have HU := Lib.hid hu
      have HF0 := Lib.hid f0
      have HGL := Lib.hid hgl
      have hbw := HBX.out.trans (HB.out.mono HBX.out.size)
      have HBW := Lib.hid (Below.drew hbw)
      have i0 : (0 : Int) ≤ (i : Int) := by omega
      have i1 : (i : Int) < (N : Int) := by omega
      have tm : (i : Int).tmod (w : Int) = (X : Int) := by rw [Int.tmod_eq_emod_of_nonneg i0, ← Int.natCast_emod, hX]
      have qd : (i : Int).tdiv (w : Int) = (Y : Int) := by rw [Int.tdiv_eq_ediv_of_nonneg i0, ← Int.natCast_ediv, hY]
      have qw : IntKind.i64.wrap ((i : Int).tdiv (w : Int)) = (Y : Int) := by rw [qd]; exact IntWalk.i64_in _ (by omega)
      have te : (i : Int) % (w : Int) = (X : Int) := by rw [← Int.natCast_emod, hX]
      have qe : (i : Int) / (w : Int) = (Y : Int) := by rw [← Int.natCast_ediv, hY]
      have yw : IntKind.i64.wrap (Y : Int) = (Y : Int) := IntWalk.i64_in _ (by omega)
      have xw : IntKind.i64.wrap (X : Int) = (X : Int) := IntWalk.i64_in _ (by omega)
      have wz : ((w : Int) == 0) = false := by rw [beq_eq_false_iff_ne]; omega
      have wn : ¬ w = 0 := by omega
      have v2 : wr.drew.cell? ⟨v, 2, none⟩ = some (.slice (some ⟨g, 0, none⟩) N N) := HC.out.2.2
      have HXY : Hid (f (i % w) (i / w) = f X Y) := by show _ = _; rw [hX, hY]
      have hvg : v ≠ g := fun e => hgv e.symm
      clear hcell hu f0 hgl hX hY hbw
      go_wp2_with fail
      go_region_held3 (fun w' => w'.cell? ⟨v, 2, none⟩ = some (.slice (some ⟨g, 0, none⟩) N N))
        (first | with_reducible exact v2 | with_reducible exact z2 | with_reducible exact cell_set1 z2 hvg | go_keep)
        (first
          | (refine (HF.out _ X Y HBW.out hXw hYh).mono ?_; rintro e w5 ⟨rfl, hb5⟩; have z2 := cpa hb5 v2; have u5 := cpa hb5 (show wr.drew.cell? ⟨g, i, none⟩ = some u from HU.out); have f5 := (hb5.frozen (p := ⟨g, i, none⟩) (show g < wr.drew.heap.size from HGL.out)).trans (show wr.drew.frozen? ⟨g, i, none⟩ = false from HF0.out); have HE5 := Lib.hid hb5; clear hb5))
      clear tm qd qw te qe yw xw wz
      have hb5 := (Below.drew (bnil wr)).trans HE5.out
      have ho6 := own_set (owns_up HO.out hb5) i (.int .i64 (f X Y))
      rw [← HXY.out, madeS_set hin, HXY.out] at ho6
      have HO6 := Lib.hid ho6
      have HC6 : Hid (((w5.setCell ⟨g, i, none⟩ (.int .i64 (f X Y))).cell? ⟨v, 0, none⟩ = some (.int .i64 w) ∧ (w5.setCell ⟨g, i, none⟩ (.int .i64 (f X Y))).cell? ⟨v, 1, none⟩ = some (.int .i64 h) ∧ (w5.setCell ⟨g, i, none⟩ (.int .i64 (f X Y))).cell? ⟨v, 2, none⟩ = some (.slice (some ⟨g, 0, none⟩) N N))) := ⟨cell_set1 (cpa hb5 HC.out.1) hvg, cell_set1 (cpa hb5 HC.out.2.1) hvg, cell_set1 (cpa hb5 HC.out.2.2) hvg⟩
      have HB6 := Lib.hid ((HB.out.trans (hb5.mono HB.out.size)).setCell (p := ⟨g, i, none⟩) (by rw [HGS.out]; exact Nat.le_refl _) (.int .i64 (f X Y)))
      clear hb5 ho6 v2 z2 u5 f5
      go_wp2
      go_roundw
      case rel => exact ⟨i + 1, by omega, by go_num, HO6.out, HC6.out, HB6.out⟩
      case measure => simp [intOf]; omega
    · obtain rfl : i = N := by omega
      have ho := HO.out
      rw [HALL.out] at ho
      have HO2 := Lib.hid ho
      clear ho HO
      obtain ⟨v0, v1, v2⟩ := HC.out
      have hz := (HB.out.block W.heap.size (by have := HSZ.out; omega)).trans HZ.out
      have HZW := Lib.hid hz
      have hgW : g ≠ W.heap.size := by have := HSZ.out; have := HGS.out; omega
      obtain ⟨⟨d0, d1', d2'⟩, q0, q1, q2⟩ := p_cells hz
      clear hz
      go_wp2
      obtain ⟨w9, e9, ⟨r0, r1, r2⟩, hk9, hs9, hbl9⟩ := set3p HZW.out (.int .i64 w) (.int .i64 h) (.slice (some ⟨g, 0, none⟩) i i)
      rw [e9]
      refine bodyPost_ret (v := patV w h (some ⟨g, 0, none⟩) i i) (by simp [results, Tryd.results61, go_sem, r0, r1, r2]) rfl ?_
      refine ⟨g, i, rfl, ⟨own_of_heap' HO2.out fun b hb => hk9 b ?_⟩, hbl9 _ _ (Nat.le_refl _) (HBX.out.trans (HB.out.mono HBX.out.size))⟩
      rw [show b = g from (Option.some.inj hb).symm]
      exact hgW
end Go.Proofs.YtocfkmdoalhjmaaDoor
