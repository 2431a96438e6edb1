/- The contract of edenraw.Under. edenref22.number, edenref22.Image. edenref22.Step for any table and patch. -/
import Derived.Test.YtocfkmdoalhjmaaDoorErrG
import Derived.Test.YtocfkmdoalhjmaaDoorApp
import Derived.Test.YtocfkmdoalhjmaaDoorTypes
import Derived.Test.YtocfkmdoalhjmaaDoorOwn
import Derived.Deep.RegionHeld3
import Derived.Test.YtocfkmdoalhjmaaDoorPlaG
import Derived.Test.YtocfkmdoalhjmaaDoorTrkP
import Derived.Deep.RegionLaw
import Derived.Test.YtocfkmdoalhjmaaDoorPlaI
import Derived.Test.YtocfkmdoalhjmaaDoorRefPD
namespace Go.Proofs.YtocfkmdoalhjmaaDoor
open Go.RowKit
set_option linter.unusedVariables false
set_option maxRecDepth 100000

theorem al1 {w : World} {a : Addr} {v : Value} {o : Obj} (h : w.cell? a = some v) : (w.alloc o).drew.cell? a = some v := (Below.drew (balloc (bnil w) o)).cell (World.block_lt_of_cell? _ _ h) |>.trans h
theorem al2 {w : World} {a : Addr} {v : Value} {o o' : Obj} (h : w.cell? a = some v) : ((w.alloc o).alloc o').drew.cell? a = some v := (Below.drew (balloc (balloc (bnil w) o) o')).cell (World.block_lt_of_cell? _ _ h) |>.trans h
theorem vd1 {w : World} {o : Obj} : Below w.heap.size w (w.alloc o).drew := Below.drew (balloc (bnil w) o)
theorem vd0 {w : World} {o : Obj} : Below w.heap.size w (w.alloc o) := balloc (bnil w) o
theorem lit0 {w : World} {u : Value} {e : TypeId} : (w.alloc (.cells #[u] e)).cell? ⟨w.heap.size, 0, none⟩ = some u := by simp
theorem al0 {w : World} {a : Addr} {v : Value} {o : Obj} (h : w.cell? a = some v) : (w.alloc o).cell? a = some v := (balloc (bnil w) o).cell (World.block_lt_of_cell? _ _ h) |>.trans h
theorem vd2 {w : World} {o o' : Obj} : Below w.heap.size w ((w.alloc o).alloc o').drew := Below.drew (balloc (balloc (bnil w) o) o')
theorem lit1 {w : World} {u : Value} {e : TypeId} : (w.alloc (.cells #[u] e)).drew.cell? ⟨w.heap.size, 0, none⟩ = some u := by simp
theorem lit2a {w : World} {u : Value} {e : TypeId} {o : Obj} : ((w.alloc (.cells #[u] e)).alloc o).drew.cell? ⟨w.heap.size, 0, none⟩ = some u := by simp
theorem lit2b {w : World} {u : Value} {e : TypeId} {o : Obj} : ((w.alloc o).alloc (.cells #[u] e)).drew.cell? ⟨w.heap.size + 1, 0, none⟩ = some u := by
  have : (w.alloc o).heap.size = w.heap.size + 1 := by simp
  rw [← this]
  exact lit1
theorem cpb {w w' : World} {a : Addr} {v : Value} (hb : Below w.heap.size w w') (h : w.cell? a = some v) : w'.cell? a = some v := (hb.cell (World.block_lt_of_cell? _ _ h)).trans h
theorem set3_cell {w : World} {a : Addr} {v u0 u1 u2 : Value} {g : Nat} (h : w.cell? a = some v) (hne : a.block ≠ g) : (((w.setCell ⟨g, 0, none⟩ u0).setCell ⟨g, 1, none⟩ u1).setCell ⟨g, 2, none⟩ u2).cell? a = some v := by
  rw [World.cell?_of_block (w := w)]
  · exact h
  · rw [Below.heap_setCell _ _ _ _ hne, Below.heap_setCell _ _ _ _ hne, Below.heap_setCell _ _ _ _ hne]
section
variable {P : Program} {ops : Array Oper} {rest : List Oper} {o : Oper} {a : Act} {Q : Exit → Act → World → Prop}
/-- append([]T{u}, x...) of one or more: a new row -/
theorem stg {w : World} {K : Act → World → Prop} {E : Prop} (hg : o.guard = none) (s x : Operand) (t : TypeId) (hop : o.op = .call { callee := .builtin .append, args := #[s, x], argTypes := #[t, t] })
    {e : TypeId} {z : Value} {bytes : Nat} (T : ET P t e z 1 bytes) (g : Nat) (u : Value) (hs : a.eval s = .slice (some ⟨g, 0, none⟩) 1 1) (hu : w.cell? ⟨g, 0, none⟩ = some u)
    (ad : Option Addr) (m c : Nat) (news : List Value) (hx : a.eval x = .slice ad m c) (hm : 0 < m) (hR : Rd w ad m 1 news) (b1 : 1 + m ≤ maxLen) (b2 : (1 + m) * bytes ≤ 140737488355328)
    (hK : ∀ g' c' w', g' = w.heap.size → w'.ownsRow w.heap.size e 1 (.slice (some ⟨g', 0, none⟩) (1 + m) c') (1 + m) (u :: news) → Below w.heap.size w w' → K (a.put o.dst (.slice (some ⟨g', 0, none⟩) (1 + m) c')) w') :
    if Region.wanted o (yielded ops a.tmps) = true then Oper.wp P o a w K Q else E := by
  have hw : Region.wanted o (yielded ops a.tmps) = true := by simp [Region.wanted, hg]
  rw [if_pos hw]
  obtain ⟨i, hi, hz, h4, h5⟩ := T.hi
  have hzs := T.hzs
  subst h5
  obtain ⟨b, of, rfl, hlt, hc⟩ : ∃ b o, ad = some ⟨b, o, none⟩ ∧ b < w.heap.size ∧ ∀ j v, news[j]? = some v → w.cell? ⟨b, o + j, none⟩ = some v := by
    rcases hR.2 with h0 | h
    · omega
    · exact h
  have hl : news.length = m * i.size := by rw [h4]; exact hR.1
  have hrun := run_append_grow (P := P) (w := w) t o.type e i z T.ht hi hz ⟨g, 0, none⟩ 1 1 [u] (by rw [h4]; rfl) (fun j v hv => by
    cases j with
    | zero => simp at hv; subst hv; rw [Addr.add_lit]; exact hu
    | succ j => simp at hv) ⟨b, of, none⟩ m c news hl (fun j v hv => by rw [Addr.add_lit]; exact hc j v hv) (by omega) (by unfold maxLen at b1; omega) (growslice_fits (by omega) b2)
  have hge := grownCap_ge w (1 + m) 1 e
  have hcm : grownCap w (1 + m) 1 e ≤ maxLen := grownCap_le_maxLen w (1 + m) 1 e b1
  have hbel : Below w.heap.size w (w.drew.alloc (.cells (#[u] ++ news.toArray ++ Builtin.zeroCells z.cells (grownCap w (1 + m) 1 e - (1 + m))) e)) := (Below.drew (bnil w)).alloc (Nat.le_refl _) _
  have hn1 : news.length = m := by rw [hl, h4, Nat.mul_one]
  have hown : (w.drew.alloc (.cells (#[u] ++ news.toArray ++ Builtin.zeroCells z.cells (grownCap w (1 + m) 1 e - (1 + m))) e)).ownsRow w.heap.size e 1 (.slice (some ⟨w.heap.size, 0, none⟩) (1 + m) (grownCap w (1 + m) 1 e)) (1 + m) (u :: news) := by
    refine ⟨by simp; omega, .inr ⟨w.heap.size, _, _, rfl, Nat.le_refl _, heap_alloc_new w.drew _, hge, hcm, ?_, ?_⟩⟩
    · simp only [Array.size_append, List.size_toArray, size_zeroCells, hzs, hn1, List.length_cons, List.length_nil]
      omega
    · simp only [Array.toList_append, List.append_assoc]
      rw [← List.append_assoc]
      rw [show (1 + m) * 1 = ((#[u] : Array Value).toList ++ news.toArray.toList).length by simp; omega]
      exact List.take_left
  unfold Oper.wp
  simp [execOp, hop, resolve, invoke, builtin, hs, hx, Result.andThen]
  rw [hrun]
  exact hK _ _ _ rfl hown hbel
end

theorem refUnder_none (op : ByteArray) (at_ : Int) (W : World) : Calls Tryd.prog 66 #[.string op, .int .i64 at_, .agg #[.int .i64 0, .slice none 0 0, .slice none 0 0]] W (RefRet W none) := by
  go_enter Tryd.func66, Tryd.ntmps66
  go_wp2
  refine bodyPost_ret (v := .agg #[.int .i64 0, .slice none 0 0, .slice none 0 0]) (by simp [results, Tryd.results66, go_sem]) rfl ?_
  exact ⟨_, _, _, _, _, _, _, rfl, wc_none _, fr_none, fr_none, rfl, fun _ => ⟨rfl, rfl, rfl, rfl, rfl, rfl, rfl⟩, balloc (balloc (bnil W) _) _⟩

theorem under_fin {w w9 : World} {g g5 g7 c5 c7 m : Nat} {N at_ : Int} {op : ByteArray} {es : List (ByteArray × Int)} (hm : es.length = m) (hl : m < 1000) (hN : (N == 0) = false) (hk : ∀ k, k ≠ g → w9.heap[k]? = w.heap[k]?) (hs : w9.heap.size = w.heap.size)
    (r5 : Rd w (some ⟨g5, 0, none⟩) (1 + m) 1 (Value.string op :: es.map fun x => Value.string x.1)) (r7 : Rd w (some ⟨g7, 0, none⟩) (1 + m) 1 (Value.int .i64 at_ :: es.map fun x => Value.int .i64 x.2)) (h5 : g + 1 ≤ g5) (h7 : g + 1 ≤ g7) :
    WC w9 (.agg #[.int .i64 N, .slice (some ⟨g5, 0, none⟩) (1 + m) c5, .slice (some ⟨g7, 0, none⟩) (1 + m) c7]) (some ((op, at_) :: es, N)) := by
  subst hm
  refine ⟨⟨some ⟨g5, 0, none⟩, some ⟨g7, 0, none⟩, c5, c7, by simp [Nat.add_comm], rfl, rfl, ?_, ?_, by simp; omega⟩, hN⟩
  · have := r5.oth hk hs fun b o e => by cases e; omega
    rw [Nat.add_comm] at this
    exact this
  · have := r7.oth hk hs fun b o e => by cases e; omega
    rw [Nat.add_comm] at this
    exact this

set_option maxHeartbeats 4000000 in
theorem refUnder_some (op : ByteArray) (at_ N : Int) (es : List (ByteArray × Int)) (a1 a2 : Option Addr) (n1 c1 n2 c2 : Nat) (W : World) (hw : WC W (.agg #[.int .i64 N, .slice a1 n1 c1, .slice a2 n2 c2]) (some (es, N))) (hl : es.length < 1000) (hl0 : 0 < es.length) :
    Calls Tryd.prog 66 #[.string op, .int .i64 at_, .agg #[.int .i64 N, .slice a1 n1 c1, .slice a2 n2 c2]] W (RefRet W (some ((op, at_) :: es, N))) := by
  obtain ⟨⟨ao, aa, co, ca, e, hw⟩, hN⟩ := hw
  simp only [Value.agg.injEq, Array.mk.injEq, List.cons.injEq, Value.slice.injEq] at e
  obtain ⟨_, ⟨rfl, rfl, rfl⟩, ⟨rfl, rfl, rfl⟩, _⟩ := e
  have HO := Lib.hid hw.ops
  have HA := Lib.hid hw.ats
  have HN := Lib.hid hN
  obtain ⟨m, hm⟩ : ∃ m, es.length = m := ⟨_, rfl⟩
  have HLM := Lib.hid hm
  rw [hm] at hl hl0
  have e1 := HO.out
  have e2 := HA.out
  rw [hm] at e1 e2
  have HO := Lib.hid e1
  have HA := Lib.hid e2
  clear hw e1 e2 hm
  rw [HLM.out]
  obtain ⟨Wb, hWb⟩ : ∃ Wb, (W.alloc (.cells #[.int .i64 N, .slice a1 m c1, .slice a2 m c2] 48)).alloc (.cells #[.int .i64 0, .slice none 0 0, .slice none 0 0] 48) = Wb := ⟨_, rfl⟩
  have HX : Hid (Wb.cell? ⟨W.heap.size, 0, none⟩ = some (.int .i64 N) ∧ Wb.cell? ⟨W.heap.size, 1, none⟩ = some (.slice a1 m c1) ∧ Wb.cell? ⟨W.heap.size, 2, none⟩ = some (.slice a2 m c2)) := by rw [← hWb]; exact ⟨(balloc (bnil _) _).cell (by simp) |>.trans (by simp), (balloc (bnil _) _).cell (by simp) |>.trans (by simp), (balloc (bnil _) _).cell (by simp) |>.trans (by simp)⟩
  have HBX : Hid (Below W.heap.size W Wb) := by rw [← hWb]; exact balloc (balloc (bnil W) _) _
  have HSZ : Hid (Wb.heap.size = W.heap.size + 2) := by show _ = _; rw [← hWb]; simp
  have HBX1 := Lib.hid (balloc (bnil W) (.cells #[.int .i64 N, .slice a1 m c1, .slice a2 m c2] 48))
  have HOB := Lib.hid (HO.out.up HBX.out)
  have HAB := Lib.hid (HA.out.up HBX.out)
  have x0 := HX.out.1
  have x1 := HX.out.2.1
  have x2 := HX.out.2.2
  have HWB := Lib.hid hWb; clear hWb
  go_enter Tryd.func66, Tryd.ntmps66
  go_wp2_with fail
  rw [HWB.out]
  have y0 : Wb.drew.cell? ⟨W.heap.size, 0, none⟩ = some (.int .i64 N) := x0
  have y1 : Wb.drew.cell? ⟨W.heap.size, 1, none⟩ = some (.slice a1 m c1) := x1
  have y2 : Wb.drew.cell? ⟨W.heap.size, 2, none⟩ = some (.slice a2 m c2) := x2
  have hne : W.heap.size ≠ W.heap.size + 1 := by omega
  have hlt : W.heap.size < Wb.heap.size := by have := HSZ.out; omega
  go_region_held3 (fun w' => w'.cell? ⟨W.heap.size, 0, none⟩ = some (.int .i64 N) ∧ w'.cell? ⟨W.heap.size, 1, none⟩ = some (.slice a1 m c1) ∧ w'.cell? ⟨W.heap.size, 2, none⟩ = some (.slice a2 m c2))
    (first | with_reducible exact ⟨y0, y1, y2⟩ | with_reducible exact ⟨al1 x0, al1 x1, al1 x2⟩ | with_reducible exact ⟨al2 x0, al2 x1, al2 x2⟩ | with_reducible exact ⟨s50, s51, s52⟩ | with_reducible exact ⟨s70, s71, s72⟩ | with_reducible exact ⟨al0 s50, al0 s51, al0 s52⟩ | with_reducible exact ⟨al0 s70, al0 s71, al0 s72⟩ | with_reducible exact ⟨al1 s50, al1 s51, al1 s52⟩ | with_reducible exact ⟨al1 s70, al1 s71, al1 s72⟩ | with_reducible exact ⟨set3_cell s50 hne, set3_cell s51 hne, set3_cell s52 hne⟩ | with_reducible exact ⟨set3_cell s70 hne, set3_cell s71 hne, set3_cell s72 hne⟩ | go_keep)
    (first
      | (refine stg (by rfl) _ _ _ (by rfl) et_str _ (.string op) (by rfl) ?_ a1 m c1 (es.map fun x => Value.string x.1) (by rfl) hl0 ?_ (by unfold maxLen; omega) (by omega) ?_; (first | with_reducible exact lit0 | with_reducible exact lit1 | with_reducible exact lit2a | with_reducible exact lit2b | with_reducible exact zSa | with_reducible exact zSb); (first | with_reducible exact HOB.out.up vd1 | with_reducible exact HOB.out.up vd2 | with_reducible exact HOB.out.up HD7.out | with_reducible exact HOB.out.up (bstep HD7.out vd1) | with_reducible exact HOB.out.up (bstep HD7.out vd0)); intro g5 c5 w5 hg5 ho5 hb5; (first | (with_reducible have HD5 := Lib.hid (bstep (bstep HD7.out vd0) hb5)) | (with_reducible have HD5 := Lib.hid (bstep (bstep HD7.out vd1) hb5)) | (with_reducible have HD5 := Lib.hid (bstep HD7.out hb5)) | (with_reducible have HD5 := Lib.hid (bstep (vd2 (w := Wb)) hb5)) | (with_reducible have HD5 := Lib.hid (bstep (vd1 (w := Wb)) hb5))); (try (with_reducible have zIa := cpb hb5 (lit2a (w := Wb) (u := .int .i64 at_)))); (try (with_reducible have zIb := cpb hb5 (lit2b (w := Wb) (u := .int .i64 at_)))); (first | (with_reducible have HL5 : Hid (w7.heap.size ≤ g5) := Lib.hid (by rw [hg5]; first | exact Nat.le_refl _ | (simp; done))) | skip); have hz5 := HD5.out; rw [← HWB.out] at hz5; obtain ⟨⟨q0, q1, q2⟩, f0, f1, f2⟩ := res3 (g := W.heap.size + 1) (by simp) hz5; have s50 := cpb HD5.out x0; have s51 := cpb HD5.out x1; have s52 := cpb HD5.out x2; have HO5 := Lib.hid ho5; have HG5 := Lib.hid hg5; have HB5 := Lib.hid hb5; clear ho5 hg5 hb5 hz5)
      | (refine stg (by rfl) _ _ _ (by rfl) et_int _ (.int .i64 at_) (by rfl) ?_ a2 m c2 (es.map fun x => Value.int .i64 x.2) (by rfl) hl0 ?_ (by unfold maxLen; omega) (by omega) ?_; (first | with_reducible exact lit0 | with_reducible exact lit1 | with_reducible exact lit2a | with_reducible exact lit2b | with_reducible exact zIa | with_reducible exact zIb); (first | with_reducible exact HAB.out.up vd1 | with_reducible exact HAB.out.up vd2 | with_reducible exact HAB.out.up HD5.out | with_reducible exact HAB.out.up (bstep HD5.out vd1) | with_reducible exact HAB.out.up (bstep HD5.out vd0)); intro g7 c7 w7 hg7 ho7 hb7; (first | (with_reducible have HD7 := Lib.hid (bstep (bstep HD5.out vd0) hb7)) | (with_reducible have HD7 := Lib.hid (bstep (bstep HD5.out vd1) hb7)) | (with_reducible have HD7 := Lib.hid (bstep HD5.out hb7)) | (with_reducible have HD7 := Lib.hid (bstep (vd2 (w := Wb)) hb7)) | (with_reducible have HD7 := Lib.hid (bstep (vd1 (w := Wb)) hb7))); (try (with_reducible have zSa := cpb hb7 (lit2a (w := Wb) (u := .string op)))); (try (with_reducible have zSb := cpb hb7 (lit2b (w := Wb) (u := .string op)))); (first | (with_reducible have HL7 : Hid (w5.heap.size ≤ g7) := Lib.hid (by rw [hg7]; first | exact Nat.le_refl _ | (simp; done))) | skip); have hz7 := HD7.out; rw [← HWB.out] at hz7; obtain ⟨⟨q0, q1, q2⟩, f0, f1, f2⟩ := res3 (g := W.heap.size + 1) (by simp) hz7; have s70 := cpb HD7.out x0; have s71 := cpb HD7.out x1; have s72 := cpb HD7.out x2; have HO7 := Lib.hid ho7; have HG7 := Lib.hid hg7; have HB7 := Lib.hid hb7; clear ho7 hg7 hb7 hz7))
  all_goals
    first
    | (obtain ⟨w9, e9, ⟨r0, r1, r2⟩, hb9, hk9, hs9⟩ := res3_set (g := W.heap.size + 1) (u0 := .int .i64 N) (u1 := .slice (some ⟨g5, 0, none⟩) (1 + m) c5) (u2 := .slice (some ⟨g7, 0, none⟩) (1 + m) c7) (by simp) (show Below ((W.alloc (.cells #[.int .i64 N, .slice a1 m c1, .slice a2 m c2] 48)).alloc (.cells #[.int .i64 0, .slice none 0 0, .slice none 0 0] 48)).heap.size ((W.alloc (.cells #[.int .i64 N, .slice a1 m c1, .slice a2 m c2] 48)).alloc (.cells #[.int .i64 0, .slice none 0 0, .slice none 0 0] 48)) w7 by rw [HWB.out]; exact HD7.out)
       rw [e9]
       have hbx : Below w5.heap.size w5 w7 := by first | exact HB7.out | exact bstep vd0 HB7.out | exact bstep vd1 HB7.out
       have r5 := (owns_rd HO5.out).2.up hbx
       have r7 := (owns_rd HO7.out).2
       have l5 : Wb.heap.size ≤ g5 := by rw [HG5.out]; first | exact (vd1 (w := Wb)).size | exact (vd2 (w := Wb)).size
       have l7 : Wb.heap.size ≤ g7 := by rw [HG7.out]; first | exact HD5.out.size | exact (bstep HD5.out vd0).size | exact (bstep HD5.out vd1).size
       have hsz := HSZ.out
       go_wp2
       refine bodyPost_ret (v := .agg #[.int .i64 N, .slice (some ⟨g5, 0, none⟩) (1 + m) c5, .slice (some ⟨g7, 0, none⟩) (1 + m) c7]) (by simp [results, Tryd.results66, go_sem, r0, r1, r2]) rfl ?_
       exact ⟨_, _, _, _, _, _, _, rfl, under_fin HLM.out hl HN.out hk9 hs9 r5 r7 (by omega) (by omega), fr_some (by omega), fr_some (by omega), (by have := HN.out; simpa [bne] using this), (fun h => by cases h), HBX1.out.trans (hb9.mono HBX1.out.size)⟩)
    | (obtain ⟨w9, e9, ⟨r0, r1, r2⟩, hb9, hk9, hs9⟩ := res3_set (g := W.heap.size + 1) (u0 := .int .i64 N) (u1 := .slice (some ⟨g5, 0, none⟩) (1 + m) c5) (u2 := .slice (some ⟨g7, 0, none⟩) (1 + m) c7) (by simp) (show Below ((W.alloc (.cells #[.int .i64 N, .slice a1 m c1, .slice a2 m c2] 48)).alloc (.cells #[.int .i64 0, .slice none 0 0, .slice none 0 0] 48)).heap.size ((W.alloc (.cells #[.int .i64 N, .slice a1 m c1, .slice a2 m c2] 48)).alloc (.cells #[.int .i64 0, .slice none 0 0, .slice none 0 0] 48)) w5 by rw [HWB.out]; exact HD5.out)
       rw [e9]
       have hbx : Below w7.heap.size w7 w5 := by first | exact HB5.out | exact bstep vd0 HB5.out | exact bstep vd1 HB5.out
       have r7 := (owns_rd HO7.out).2.up hbx
       have r5 := (owns_rd HO5.out).2
       have l7 : Wb.heap.size ≤ g7 := by rw [HG7.out]; first | exact (vd1 (w := Wb)).size | exact (vd2 (w := Wb)).size
       have l5 : Wb.heap.size ≤ g5 := by rw [HG5.out]; first | exact HD7.out.size | exact (bstep HD7.out vd0).size | exact (bstep HD7.out vd1).size
       have hsz := HSZ.out
       go_wp2
       refine bodyPost_ret (v := .agg #[.int .i64 N, .slice (some ⟨g5, 0, none⟩) (1 + m) c5, .slice (some ⟨g7, 0, none⟩) (1 + m) c7]) (by simp [results, Tryd.results66, go_sem, r0, r1, r2]) rfl ?_
       exact ⟨_, _, _, _, _, _, _, rfl, under_fin HLM.out hl HN.out hk9 hs9 r5 r7 (by omega) (by omega), fr_some (by omega), fr_some (by omega), (by have := HN.out; simpa [bne] using this), (fun h => by cases h), HBX1.out.trans (hb9.mono HBX1.out.size)⟩)
end Go.Proofs.YtocfkmdoalhjmaaDoor
namespace Go.Proofs.YtocfkmdoalhjmaaDoor
open Go.RowKit
set_option linter.unusedVariables false
set_option maxRecDepth 100000

theorem RK.sub {k : IntKind} {w : World} {ab ao n p m : Nat} {l : List Int} (h : RK k w (some ⟨ab, ao, none⟩) n l) (hp : p + m ≤ n) (hn : 0 < n) : Rd w (some ⟨ab, ao + p, none⟩) m 1 (((l.drop p).take m).map (Value.int k)) := by
  obtain ⟨ab2, ao2, hq, hlt, hcell⟩ := h.addr hn
  cases hq
  have hl := h.len
  refine ⟨by simp; omega, .inr ⟨ab, ao + p, rfl, hlt, fun j u hu => ?_⟩⟩
  rw [List.getElem?_map, Option.map_eq_some_iff] at hu
  obtain ⟨x, hx, rfl⟩ := hu
  have hj : j < m := by
    have := (List.getElem?_eq_some_iff.1 hx).1
    simp at this
    omega
  have hc := hcell (p + j) (by omega)
  rw [List.getElem?_take_of_lt hj, List.getElem?_drop] at hx
  rw [show l.getD (p + j) 0 = x by rw [List.getD_eq_getElem?_getD, hx]; rfl] at hc
  rw [Nat.add_assoc]
  exact hc
theorem int_one (xs : List Int) : ∀ u ∈ xs.map (Value.int .i64), u.oneCell' = true := by
  intro u hu
  obtain ⟨x, _, rfl⟩ := List.mem_map.1 hu
  rfl
/-- the number of the first cells -/
def numT (l : List Int) : Nat → Nat
  | 0 => 0
  | k + 1 => 2 * numT l k + (l.getD k 0).toNat
theorem numT_lt {l : List Int} (hs : ∀ x ∈ l, x = 0 ∨ x = 1) : ∀ k, numT l k < 2 ^ k
  | 0 => by simp [numT]
  | k + 1 => by
    have ih := numT_lt hs k
    have hx : (l.getD k 0).toNat ≤ 1 := by
      by_cases hk : k < l.length
      · rw [show l.getD k 0 = l[k] by simp [hk]]
        have := hs l[k] (List.getElem_mem hk)
        omega
      · rw [show l.getD k 0 = 0 by simp [show l.length ≤ k by omega]]
        decide
    unfold numT
    rw [Nat.pow_succ]
    omega
theorem number_any (a : Option Addr) (n c : Nat) (l : List Int) (W : World) (hR : RK .i64 W a n l) (hn : n ≤ 9) (hs : ∀ x ∈ l, x = 0 ∨ x = 1) :
    Calls Tryd.prog 77 #[.slice a n c] W fun e w' => e = .returned (.int .i64 (numT l n : Nat)) ∧ W = w' := by
  have HR := Lib.hid hR
  have HNL := Lib.hid hR.len
  have HS := Lib.hid hs
  clear hR hs
  go_enter Tryd.func77, Tryd.ntmps77
  go_wp2
  go_loop [3, 4] (fun nx ix => ∃ i : Nat, i ≤ n ∧ ix = .int .i64 (i : Nat) ∧ nx = .int .i64 (numT l i : Nat)) (fun _ ix => n - (intOf ix).toNat)
  case atStart => exact ⟨0, by omega, rfl, rfl⟩
  case round =>
    obtain ⟨i, hi, rfl, rfl⟩ := hrel
    by_cases hlt : i < n
    · obtain ⟨ab, ao, hab, _, hcell⟩ := HR.out.addr (by omega)
      subst hab
      have z0 := hcell i hlt
      obtain ⟨x, hx, hx1⟩ : ∃ x : Nat, l.getD i 0 = (x : Int) ∧ x ≤ 1 := by
        have hil : i < l.length := by rw [← HNL.out]; exact hlt
        rw [show l.getD i 0 = l[i] by simp [hil]]
        have := HS.out l[i] (List.getElem_mem hil)
        rcases this with h | h
        · exact ⟨0, h, by omega⟩
        · exact ⟨1, h, by omega⟩
      have hb := numT_lt HS.out i
      have hp : 2 ^ i ≤ 512 := by
        have := Nat.pow_le_pow_right (n := 2) (by omega) (show i ≤ 9 by omega)
        have h9 : (2 : Nat) ^ 9 = 512 := by decide
        omega
      have hb2 : numT l i ≤ 512 := by omega
      have HN : Hid (numT l (i + 1) = 2 * numT l i + x) := by show 2 * numT l i + (l.getD i 0).toNat = _; rw [hx, Int.toNat_natCast]
      rw [hx] at z0
      have i0 : (0 : Int) ≤ (i : Int) := by omega
      have i1 : (i : Int) < (n : Int) := by omega
      clear hcell hx hb hp
      generalize numT l i = N at *
      go_wp2
      go_round
      case rel => exact ⟨i + 1, by omega, by go_num, by rw [HN.out]; go_num⟩
      case measure => simp [intOf]; omega
    · obtain rfl : i = n := by omega
      go_wp2
      go_ret
      exact ⟨rfl, rfl⟩
/-- the nine cells of a window -/
def nineL (w : Nat) (l : List Int) (x y : Nat) : List Int := (List.range 9).map fun k => atL w l (x + k % 3) (y + k / 3)
theorem nineL_sym {w h : Nat} {l : List Int} (hp : IsPatch w h l) {x y : Nat} (hx : x + 2 < w) (hy : y + 2 < h) : ∀ u ∈ nineL w l x y, u = 0 ∨ u = 1 := by
  intro u hu
  obtain ⟨k, hk, rfl⟩ := List.mem_map.1 hu
  have := List.mem_range.1 hk
  exact atL_sym hp (by omega) (by omega)
theorem nine_num {w h : Nat} {l : List Int} (hp : IsPatch w h l) {x y : Nat} (hx : x + 2 < w) (hy : y + 2 < h) : numT (nineL w l x y) 9 = winN w l x y := by
  obtain ⟨c1, e1, _⟩ := atL_nat hp (show x < w by omega) (show y < h by omega)
  obtain ⟨c2, e2, _⟩ := atL_nat hp (show x + 1 < w by omega) (show y < h by omega)
  obtain ⟨c3, e3, _⟩ := atL_nat hp (show x + 2 < w by omega) (show y < h by omega)
  obtain ⟨c4, e4, _⟩ := atL_nat hp (show x < w by omega) (show y + 1 < h by omega)
  obtain ⟨c5, e5, _⟩ := atL_nat hp (show x + 1 < w by omega) (show y + 1 < h by omega)
  obtain ⟨c6, e6, _⟩ := atL_nat hp (show x + 2 < w by omega) (show y + 1 < h by omega)
  obtain ⟨c7, e7, _⟩ := atL_nat hp (show x < w by omega) (show y + 2 < h by omega)
  obtain ⟨c8, e8, _⟩ := atL_nat hp (show x + 1 < w by omega) (show y + 2 < h by omega)
  obtain ⟨c9, e9, _⟩ := atL_nat hp (show x + 2 < w by omega) (show y + 2 < h by omega)
  have hl : nineL w l x y = [(c1 : Int), c2, c3, c4, c5, c6, c7, c8, c9] := by
    rw [← e1, ← e2, ← e3, ← e4, ← e5, ← e6, ← e7, ← e8, ← e9]
    rfl
  rw [hl]
  unfold winN winZ
  rw [e1, e2, e3, e4, e5, e6, e7, e8, e9]
  clear hl e1 e2 e3 e4 e5 e6 e7 e8 e9
  simp only [numT, List.getD_cons_zero, List.getD_cons_succ, Int.toNat_natCast]
  omega
theorem nine_chunk {w : Nat} {l : List Int} {x y q J P : Nat} (hq : q < 3) (hJ : y + q = J) (hP : J * w + x = P) (hl : P + 3 ≤ l.length) : (nineL w l x y).take (3 * q) ++ (l.drop P).take 3 = (nineL w l x y).take (3 * q + 3) := by
  have hd : (l.drop P).take 3 = [l.getD P 0, l.getD (P + 1) 0, l.getD (P + 2) 0] := by
    rw [List.drop_eq_getElem_cons (show P < l.length by omega), List.drop_eq_getElem_cons (show P + 1 < l.length by omega), List.drop_eq_getElem_cons (show P + 1 + 1 < l.length by omega)]
    rw [show l.getD P 0 = l[P] by simp [show P < l.length by omega], show l.getD (P + 1) 0 = l[P + 1] by simp [show P + 1 < l.length by omega], show l.getD (P + 2) 0 = l[P + 2] by simp [show P + 2 < l.length by omega]]
    rfl
  have a0 : atL w l x J = l.getD P 0 := by rw [← hP]; rfl
  have a1 : atL w l (x + 1) J = l.getD (P + 1) 0 := by rw [← hP, Nat.add_assoc]; rfl
  have a2 : atL w l (x + 2) J = l.getD (P + 2) 0 := by rw [← hP, Nat.add_assoc]; rfl
  rw [hd, ← a0, ← a1, ← a2, ← hJ]
  have hq3 : q = 0 ∨ q = 1 ∨ q = 2 := by omega
  rcases hq3 with rfl | rfl | rfl <;> rfl
theorem take_snocN {l : List Int} {k : Nat} (h : k < l.length) : (l.take k).map (Value.int .i64) ++ (#[Value.int .i64 (l.getD k 0)] : Array Value).toList = (l.take (k + 1)).map (Value.int .i64) := by
  rw [List.take_succ_eq_append_getElem h, List.map_append, show l.getD k 0 = l[k] by simp [h]]
  rfl
theorem set2qN {w : World} {g : Nat} {x0 x1 x2 : Value} {t : TypeId} {fr : Nat × Nat} (h : w.heap[g]? = some (.cells #[x0, x1, x2] t fr)) (u : Value) : (w.setCell ⟨g, 2, none⟩ u).heap[g]? = some (.cells #[x0, x1, u] t fr) := by
  simp [World.setCell, Array.getElem?_modify, h]
set_option maxHeartbeats 16000000 in
theorem refimage (w h WN HN : Nat) (a aT : Option Addr) (n c cT : Nat) (l t LL : List Int) (W : World) (hR : SlI W a n c l) (hT : RK .i64 W aT 512 t) (ht : IsTab t) (hp : IsPatch w h l) (hw3 : 3 ≤ w) (hh3 : 3 ≤ h) (hWN : w - 2 = WN) (hHN : h - 2 = HN) (hLL : stepL t w h l = LL) :
    Calls Tryd.prog 68 #[.slice aT 512 cT, patV w h a n c] W fun e w' => ∃ a' n' c', e = .returned (patV WN HN a' n' c') ∧ OwI w' W.heap.size a' n' c' LL ∧ Below W.heap.size W w' := by
  have T0 := Tk.nil W
  have T1 := T0.add (fun wv => Below W.heap.size W wv) (bnil W)
  clear T0
  have T2 := T1.add (fun wv => RK .i64 wv a n l) (hR.rk)
  clear T1
  have T3 := T2.add (fun wv => RK .i64 wv aT 512 t) (hT)
  clear T2
  have hnc := hR.le
  have hnm := hR.mx
  unfold maxLen at hnm
  have hnl := hR.rk.len
  have hw2 := hp.w2
  have hh2 := hp.h2
  have hwh : w * h = n := by rw [hnl]; exact hp.len.symm
  have hn4 : n ≤ 4096 := by rw [← hwh]; exact Nat.mul_le_mul hw2 hh2
  have HPP := Lib.hid hp
  have HTT := Lib.hid ht
  have HWH := Lib.hid hwh
  have HNL := Lib.hid hnl
  have hwI : (w : Int) - 2 = (WN : Int) := by omega
  have hhI : (h : Int) - 2 = (HN : Int) := by omega
  have hwn2 : WN ≤ 64 := by omega
  have hhn2 : HN ≤ 64 := by omega
  have hwn3 : WN + 2 = w := by omega
  have hhn3 : HN + 2 = h := by omega
  have hWNw : IntKind.i64.wrap (WN : Int) = (WN : Int) := IntWalk.i64_in _ (by omega)
  have hHNw : IntKind.i64.wrap (HN : Int) = (HN : Int) := IntWalk.i64_in _ (by omega)
  have HWN := Lib.hid (And.intro hwn3 hhn3)
  have hlen : LL.length = WN * HN := by rw [← hLL, ← hWN, ← hHN]; exact madeL_len _ _ _
  obtain ⟨K, hK⟩ : ∃ K, WN * HN = K := ⟨_, rfl⟩
  have hK4 : K ≤ 4096 := by rw [← hK]; exact Nat.mul_le_mul hwn2 hhn2
  rw [hK] at hlen
  have HLL := Lib.hid (And.intro hLL (And.intro hWN hHN))
  have HK := Lib.hid hK
  have HLEN := Lib.hid hlen
  clear hR hT hp ht hnl hwh hWN hHN hLL hlen hK hwn3 hhn3
  obtain ⟨Wb, hWb⟩ : ∃ Wb, (W.alloc (.cells #[.int .i64 w, .int .i64 h, .slice a n c] 24)).alloc (.cells #[.int .i64 0, .int .i64 0, .slice none 0 0] 24) = Wb := ⟨_, rfl⟩
  have hbWb : Below W.heap.size W Wb := by rw [← hWb]; exact balloc (balloc (bnil W) _) _
  have T4 := T3.up hbWb
  clear T3
  have T5 := T4.add (fun wv => wv.cell? ⟨W.heap.size, 0, none⟩ = some (.int .i64 w) ∧ wv.cell? ⟨W.heap.size, 1, none⟩ = some (.int .i64 h) ∧ wv.cell? ⟨W.heap.size, 2, none⟩ = some (.slice a n c)) (by rw [← hWb]; exact ⟨al000 (cnw (by simp) rfl), al000 (cnw (by simp) rfl), al000 (cnw (by simp) rfl)⟩)
  clear T4
  have HWb := Lib.hid hWb
  clear hWb hbWb
  have hz1 : Wb.heap[W.heap.size + 1]? = some (.cells #[.int .i64 0, .int .i64 0, .slice none 0 0] 24) := by
    rw [← HWb.out]
    have := heap_alloc_new (W.alloc (.cells #[.int .i64 w, .int .i64 h, .slice a n c] 24)) (.cells #[.int .i64 0, .int .i64 0, .slice none 0 0] 24)
    simpa using this
  have hsz : W.heap.size + 1 + 1 = Wb.heap.size := by rw [← HWb.out]; simp
  have T6 := T5.add (fun wv => wv.heap[W.heap.size + 1]? = some (.cells #[.int .i64 0, .int .i64 0, .slice none 0 0] 24)) (hz1)
  clear T5
  have HSZ := Lib.hid hsz
  clear hz1 hsz
  go_enter Tryd.func68, Tryd.ntmps68
  have v_p0 : ((W.alloc (.cells #[.int .i64 w, .int .i64 h, .slice a n c] 24)).alloc (.cells #[.int .i64 0, .int .i64 0, .slice none 0 0] 24)).cell? ⟨W.heap.size, 0, none⟩ = some (.int .i64 w) := by rw [HWb.out]; exact T6.out.1.2.1
  have v_p1 : ((W.alloc (.cells #[.int .i64 w, .int .i64 h, .slice a n c] 24)).alloc (.cells #[.int .i64 0, .int .i64 0, .slice none 0 0] 24)).cell? ⟨W.heap.size, 1, none⟩ = some (.int .i64 h) := by rw [HWb.out]; exact T6.out.1.2.2.1
  go_wp2_with fail
  clear hwI hhI hWNw hHNw
  clear v_p0 v_p1
  have HZV := Lib.hid (heap_ltT (T6.out.2))
  rw [HWb.out]
  obtain ⟨wv, hwv⟩ : ∃ wv, Wb.alloc (.cells #[.int .i64 WN, .int .i64 HN, .slice none 0 0] 24) = wv := ⟨_, rfl⟩
  obtain ⟨v, hv⟩ : ∃ v, Wb.heap.size = v := ⟨_, rfl⟩
  have hh0 : wv.heap[v]? = some (.cells #[.int .i64 WN, .int .i64 HN, .slice none 0 0] 24) := by rw [← hwv, ← hv]; exact heap_alloc_new Wb _
  have hb0 : Below v Wb wv := by rw [← hwv, ← hv]; exact balloc (bnil Wb) _
  have HH0 := Lib.hid hh0
  have HB0 := Lib.hid hb0
  have HV := Lib.hid hv
  have hvs : W.heap.size + 1 + 1 = v := by rw [← hv]; exact HSZ.out
  rw [hwv, hvs]
  clear hvs
  clear hh0 hb0 hwv hv
  go_loopw [6] (fun jx wr => ∃ (r s : Nat) (aa : Option Addr) (cc : Nat), r ≤ HN ∧ s = 0 ∧ jx = .int .i64 (r : Nat) ∧ wr.heap[v]? = some (.cells #[.int .i64 WN, .int .i64 HN, .slice aa (r * WN + s) cc] 24) ∧ OwI wr (v + 1) aa (r * WN + s) cc (LL.take (r * WN + s)) ∧ Below v Wb wr) (fun jx _ => HN - (intOf jx).toNat)
  case atStart => exact ⟨0, 0, none, 0, by omega, by omega, rfl, by simpa using HH0.out, by simpa using OwI.nil _ _, HB0.out⟩
  case round =>
    obtain ⟨r, s0, aa, cc, hr, rfl, rfl, hh, ho, hb⟩ := hrel
    obtain ⟨⟨b0, b1, b2⟩, _, _, _⟩ := p_cells hh
    clear b0 b2
    have HH := Lib.hid hh
    have HO := Lib.hid ho
    have HB := Lib.hid hb
    clear hh ho hb
    generalize wr = wo at *
    by_cases hrq : r < HN
    · skip
      have j1 : (r : Int) < (HN : Int) := by omega
      go_wp2_with fail
      clear b1 j1
      go_loopw [7] (fun ix wr => ∃ (r1 s : Nat) (aa : Option Addr) (cc : Nat), r1 = r ∧ s ≤ WN ∧ ix = .int .i64 (s : Nat) ∧ wr.heap[v]? = some (.cells #[.int .i64 WN, .int .i64 HN, .slice aa (r1 * WN + s) cc] 24) ∧ OwI wr (v + 1) aa (r1 * WN + s) cc (LL.take (r1 * WN + s)) ∧ Below v Wb wr) (fun ix _ => WN - (intOf ix).toNat)
      case atStart => exact ⟨r, 0, aa, cc, rfl, by omega, rfl, HH.out, HO.out, HB.out⟩
      case round =>
        obtain ⟨r1, s, a3, c3, rfl, hs, rfl, hh3, ho3, hb3⟩ := hrel
        obtain ⟨⟨u0, u1, u2⟩, _, _, _⟩ := p_cells hh3
        clear u1 u2
        have HB3 := Lib.hid hb3
        generalize wr = wi at *
        by_cases hsp : s < WN
        · skip
          have hbw := HB3.out
          have HVI := Lib.hid (heap_ltT hh3)
          clear hb3
          have hbw2 : Below Wb.heap.size Wb wi := by rw [HV.out]; exact hbw
          clear hbw
          have T7 := T6.up hbw2
          clear T6
          have T8 := T7.add (fun wv => wv.heap[v]? = some (.cells #[.int .i64 WN, .int .i64 HN, .slice a3 (r1 * WN + s) c3] 24)) (hh3)
          clear T7
          have T9 := T8.add (fun wv => OwI wv (v + 1) a3 (r1 * WN + s) c3 (LL.take (r1 * WN + s))) (ho3)
          clear T8
          clear hh3 ho3 hbw2
          have i1 : (s : Int) < (WN : Int) := by omega
          obtain ⟨NL, hNL⟩ : ∃ NL, nineL w l s r1 = NL := ⟨_, rfl⟩
          have HNN := Lib.hid hNL
          clear hNL
          go_wp2_with fail
          clear i1 u0
          go_loopw [8, 9] (fun nx jx wx => ∃ (q : Nat) (aN : Option Addr) (cN : Nat), q ≤ 3 ∧ nx = .slice aN (3 * q) cN ∧ jx = .int .i64 ((r1 + q : Nat) : Int) ∧ OwI wx wi.heap.size aN (3 * q) cN (NL.take (3 * q)) ∧ Below wi.heap.size wi wx) (fun _ jx _ => r1 + 3 - (intOf jx).toNat)
          case atStart => exact ⟨0, none, 0, by omega, rfl, rfl, OwI.nil _ _, bnil wi⟩
          case round =>
            obtain ⟨q, aN, cN, hq3, rfl, rfl, hoN, hbx⟩ := hrel
            have HBX := Lib.hid hbx
            have HON := Lib.hid hoN
            have hwx : wi.heap.size ≤ wr.heap.size := hbx.size
            have T10 := T9.up hbx
            clear T9
            clear hbx hoN
            generalize wr = wx at *
            by_cases hqq : q < 3
            · skip
              obtain ⟨J, hJ⟩ : ∃ J, r1 + q = J := ⟨_, rfl⟩
              obtain ⟨Q, hQ⟩ : ∃ Q, J * w = Q := ⟨_, rfl⟩
              obtain ⟨P, hP⟩ : ∃ P, Q + s = P := ⟨_, rfl⟩
              have hPn : P + 3 ≤ n := by
                have h3 := place_lt (show s + 2 < w by have := HWN.out; omega) (show J < h by have := HWN.out; omega)
                rw [HWH.out, hQ] at h3
                omega
              have hch := nine_chunk (l := l) (w := w) (x := s) (y := r1) hqq hJ (show J * w + s = P by rw [hQ]; exact hP) (by rw [← HNL.out]; exact hPn)
              rw [HNN.out] at hch
              have HCH := Lib.hid hch
              have hQI : (J : Int) * (w : Int) = (Q : Int) := by rw [← hQ, Int.natCast_mul]
              have hPI : (Q : Int) + (s : Int) = (P : Int) := by omega
              have hQw : IntKind.i64.wrap (Q : Int) = (Q : Int) := IntWalk.i64_in _ (by omega)
              have hPw : IntKind.i64.wrap (P : Int) = (P : Int) := IntWalk.i64_in _ (by omega)
              have hPw3 : IntKind.i64.wrap ((P : Int) + 3) = (P : Int) + 3 := IntWalk.i64_in _ (by omega)
              have j1 : (J : Int) < (r1 : Int) + 3 := by omega
              have p0 : (0 : Int) ≤ (P : Int) := by omega
              have p1 : (P : Int) ≤ (P : Int) + 3 := by omega
              have p2 : (P : Int) + 3 ≤ (c : Int) := by omega
              have p3 : ((P : Int) + 3).toNat = P + 3 := by omega
              have p4 : ¬ c = P := by omega
              have p5 : P + 3 - P = 3 := by omega
              have p6 : (0 : Int) ≤ (P : Int) + 3 := by omega
              have HJ := Lib.hid hJ
              rw [hJ]
              clear hch hQ hP
              obtain ⟨ab, ao, hab, _, _⟩ := (T10.out.1.1.1.1.1.2).addr (by omega)
              subst hab
              have hsub := (T10.out.1.1.1.1.1.2).sub hPn (by omega)
              have HSUB := Lib.hid hsub
              clear hsub
              have v_p0 : wx.cell? ⟨W.heap.size, 0, none⟩ = some (.int .i64 w) := T10.out.1.1.1.2.1
              have v_p2 : wx.cell? ⟨W.heap.size, 2, none⟩ = some (.slice (some ⟨ab, ao, none⟩) n c) := T10.out.1.1.1.2.2.2
              go_wp2_with (first
                | (at_builtin; refine app_rd rfl _ _ _ rfl wi.heap.size et_int _ (3 * q) _ HON.out.own (by rfl) (some ⟨ab, ao + P, none⟩) 3 _ _ (by rfl) nofun HSUB.out (int_one _) (by unfold maxLen; omega) (by omega) hwx ?_; intro a5 c5 w5 ho5 hg5 hb5))
              have HO5 : Hid (OwI w5 wi.heap.size a5 (3 * (q + 1)) c5 (NL.take (3 * (q + 1)))) := by
                rw [← List.map_append, HCH.out] at ho5
                exact ⟨ho5⟩
              have HB5 := Lib.hid (HBX.out.trans hb5)
              clear ho5 hg5 hb5
              refine ⟨⟨q + 1, a5, c5, by omega, rfl, ?_, HO5.out, HB5.out⟩, ?_⟩
              · rw [show r1 + (q + 1) = J + 1 by have := HJ.out; omega]; go_num
              · have := HJ.out; simp [intOf]; omega
            · skip
              obtain rfl : q = 3 := by omega
              have hxw : s + 2 < w := by have := HWN.out; omega
              have hyh : r1 + 2 < h := by have := HWN.out; omega
              have hM := (winN_lt HPP.out hxw hyh).1
              have hval : t.getD (winN w l s r1) 0 = LL.getD (r1 * WN + s) 0 := by
                have h1 : LL.getD (r1 * WN + s) 0 = stepF t w l s r1 := by
                  rw [← HLL.out.1, ← HLL.out.2.1]
                  exact madeL_getD (by rw [HLL.out.2.1]; exact hsp) (by rw [HLL.out.2.2]; exact hrq)
                exact h1.symm
              have hnum := nine_num HPP.out hxw hyh
              have hsym := nineL_sym HPP.out hxw hyh
              rw [HNN.out] at hnum hsym
              have hn9 : NL.length = 9 := by rw [← HNN.out]; rfl
              have hrn := HON.out.rk
              rw [show 3 * 3 = 9 from rfl, List.take_of_length_le (by omega)] at hrn
              have HRN := Lib.hid hrn
              have HSYM := Lib.hid hsym
              rw [show 3 * 3 = 9 from rfl]
              generalize winN w l s r1 = M at *
              have HNUM := Lib.hid hnum
              have hMI : (M : Int) < ((512 : Nat) : Int) := by omega
              have hMJ : (M : Int) < 512 := by omega
              have hM0 : (0 : Int) ≤ (M : Int) := by omega
              have j1 : ¬ ((r1 + 3 : Nat) : Int) < (r1 : Int) + 3 := by omega
              obtain ⟨k, hk⟩ : ∃ k, r1 * WN + s = k := ⟨_, rfl⟩
              have hkK : k < K := by have h1 := place_lt hsp hrq; rw [hk] at h1; have := HK.out; omega
              clear hnum hsym hrn hn9
              obtain ⟨tb, tq, ht0, _, htc⟩ := (T10.out.1.1.1.1.2).addr (by omega)
              subst ht0
              have z0 := htc M hM
              rw [hval, hk] at z0
              clear htc hval
              have hh3 := T10.out.1.2
              have ho3 := T10.out.2
              rw [hk] at hh3 ho3
              have hsn := take_snocN (l := LL) (k := k) (by have := HLEN.out; have := HK.out; omega)
              have HKE := Lib.hid hk
              generalize LL.getD k 0 = u at *
              obtain ⟨⟨u0, u1, u2⟩, g0, g1, g2⟩ := p_cells hh3
              have hvs : v + 1 ≤ wx.heap.size := heap_ltT hh3
              have HSN := Lib.hid hsn
              have hO3 := Lib.hid ho3
              have HH4 := Lib.hid hh3
              clear hsn ho3 hh3 hk u1 g0 g1
              have y3 : (wx.alloc (.cells #[.int .i64 u] 3)).cell? ⟨v, 2, none⟩ = some (.slice a3 k c3) := al000 u2
              have z3 : (wx.alloc (.cells #[.int .i64 u] 3)).cell? ⟨tb, tq + M, none⟩ = some (.int .i64 u) := al000 z0
              have HRD : Hid (RK .i64 wx.drew aN 9 NL) := HRN.out.up (Below.drew (bnil wx))
              clear u0
              go_wp2_with fail
              go_region_law (first
                | (go_simp; go_at_call 77; refine (number_any aN 9 cN NL _ ?_ (Nat.le_refl 9) HSYM.out).mono ?_; (first | with_reducible exact HRN.out | with_reducible exact HRD.out); rintro e w3 ⟨rfl, rfl⟩; rw [HNUM.out])
                | (refine step_app_lit (by rfl) _ _ _ (by rfl) (v + 1) et_int _ k _ hO3.out.own (by rfl) 1 _ _ (by rfl) (by simp) (by rfl) (by rfl) (by unfold maxLen; omega) (by omega) hvs ?_; intro a5 c5 w5 ho5 hg5 hb5 hs5; have y5 : w5.cell? ⟨v, 2, none⟩ = some (.slice a3 k c3) := (hb5.cell (p := ⟨v, 2, none⟩) (Nat.lt_succ_self v)).trans u2; have q5 := (hb5.frozen (p := ⟨v, 2, none⟩) (Nat.lt_succ_self v)).trans g2))
              all_goals
                have hh5 := (hb5.block v (Nat.lt_succ_self v)).trans HH4.out
                have HH6 := Lib.hid (set2qN hh5 (.slice a5 (k + 1) c5))
                rw [HSN.out] at ho5
                have HO6 : Hid (OwI (w5.setCell ⟨v, 2, none⟩ (.slice a5 (k + 1) c5)) (v + 1) a5 (k + 1) c5 (LL.take (k + 1))) :=
                  ⟨own_of_heap' ho5 fun b hb => Below.heap_setCell _ _ _ _ (by have := (ho5.lt b hb).1; show b ≠ v; omega)⟩
                have HB6 := Lib.hid (((HB3.out.trans (HBX.out.mono (Nat.le_of_lt HVI.out))).trans (hb5.mono (Nat.le_succ v))).setCell (p := ⟨v, 2, none⟩) (Nat.le_refl v) (.slice a5 (k + 1) c5))
                have HK1 : Hid (r1 * WN + (s + 1) = k + 1) := by show _ = _; have := HKE.out; omega
                clear hh5 ho5 hg5 hb5 hs5 y5 q5 y3 z3 z0 u2 g2 hMI hMJ hM0 hM
                go_wp2
                go_roundw
                case rel => exact ⟨r1, s + 1, a5, c5, rfl, by omega, by go_num, by rw [HK1.out]; exact HH6.out, by rw [HK1.out]; exact HO6.out, HB6.out⟩
                case measure => simp [intOf]; omega
        · skip
          obtain rfl : WN = s := by omega
          have i2 : ¬ (WN : Int) < (WN : Int) := by omega
          have HH3 := Lib.hid hh3
          have HO3 := Lib.hid ho3
          have HK1 : Hid ((r1 + 1) * WN + 0 = r1 * WN + WN) := by show _ = _; rw [Nat.add_mul]; omega
          clear hh3 ho3 hb3
          go_wp2
          go_roundw
          case rel => exact ⟨r1 + 1, 0, a3, c3, by omega, rfl, by go_num, by rw [HK1.out]; exact HH3.out, by rw [HK1.out]; exact HO3.out, HB3.out⟩
          case measure => simp [intOf]; omega
    · skip
      obtain rfl : HN = r := by omega
      have j2 : ¬ (HN : Int) < (HN : Int) := by omega
      have hkk : HN * WN + 0 = K := by have := HK.out; rw [Nat.mul_comm]; omega
      have hh := HH.out
      have ho := HO.out
      rw [hkk, List.take_of_length_le (by have := HLEN.out; have := HK.out; omega)] at ho
      rw [hkk] at hh
      have HO9 := Lib.hid ho
      obtain ⟨⟨u0, u1, u2⟩, g0, g1, g2⟩ := p_cells hh
      have hbw : Below Wb.heap.size Wb wo := by rw [HV.out]; exact HB.out
      clear HO HH hkk ho hh b1
      have T7 := T6.up hbw
      clear T6
      obtain ⟨⟨q0, q1, q2⟩, d0, d1, d2⟩ := p_cells (T7.out.2)
      obtain ⟨w9, e9, ⟨r0, r1, r2⟩, hk9, hs9, hb9⟩ := set3p (T7.out.2) (.int .i64 WN) (.int .i64 HN) (.slice aa K cc)
      have HRET : Hid (OwI w9 W.heap.size aa K cc LL ∧ Below W.heap.size W w9) := ⟨OwI.base (OwI.mk (own_of_heap' HO9.out.own fun b hb => hk9 b (by have := (HO9.out.own.lt b hb).1; have := HZV.out; have := HV.out; omega))) (by have := HZV.out; have := HV.out; omega), hb9 W W.heap.size (by omega) (T7.out.1.1.1.1.2)⟩
      have HE9 := Lib.hid e9
      have HR5 := Lib.hid (And.intro r0 (And.intro r1 r2))
      clear hbw hk9 hs9 hb9 e9 r0 r1 r2
      go_wp2
      rw [HE9.out]
      have r3 := HR5.out.1
      have r4 := HR5.out.2.1
      have r5 := HR5.out.2.2
      refine bodyPost_ret (v := patV WN HN aa K cc) (by simp [results, Tryd.results68, go_sem, r3, r4, r5]) rfl ?_
      exact ⟨_, _, _, rfl, HRET.out.1, HRET.out.2⟩
end Go.Proofs.YtocfkmdoalhjmaaDoor
namespace Go.Proofs.YtocfkmdoalhjmaaDoor
open Go.RowKit
set_option linter.unusedVariables false
set_option maxRecDepth 100000

theorem wc_numP {w : World} {N n : Int} {x y : Value} {es : List (ByteArray × Int)} (h : WC w (.agg #[.int .i64 N, x, y]) (some (es, n))) : N = n := by
  obtain ⟨⟨ao, aa, co, ca, e, _⟩, _⟩ := h
  simp only [Value.agg.injEq, Array.mk.injEq, List.cons.injEq, Value.int.injEq] at e
  exact e.1.2
theorem refplcheck_ok (a : Option Addr) (n c : Nat) (l : List Int) (W : World) (hR : RK .i64 W a n l) (hm : n ≤ maxLen) (ht : tabD l = none) :
    Calls Tryd.prog 35 #[.slice a n c] W fun e w' => e = .returned (.agg #[.int .i64 0, .slice none 0 0, .slice none 0 0]) ∧ Below W.heap.size W w' := by
  refine (refplcheck_any a n c l W hR hm).mono ?_
  rintro e w' ⟨N, a1, n1, c1, a2, n2, c2, rfl, _, _, _, _, hz, hb⟩
  obtain ⟨rfl, rfl, rfl, rfl, rfl, rfl, rfl⟩ := hz ht
  exact ⟨rfl, hb⟩
theorem refUnder_z (op : ByteArray) (at_ : Int) (W : World) : Calls Tryd.prog 66 #[.string op, .int .i64 at_, .agg #[.int .i64 0, .slice none 0 0, .slice none 0 0]] W fun e w' => e = .returned (.agg #[.int .i64 0, .slice none 0 0, .slice none 0 0]) ∧ Below W.heap.size W w' := by
  refine (refUnder_none op at_ W).mono ?_
  rintro e w' ⟨N, a1, n1, c1, a2, n2, c2, rfl, _, _, _, _, hz, hb⟩
  obtain ⟨rfl, rfl, rfl, rfl, rfl, rfl, rfl⟩ := hz rfl
  exact ⟨rfl, hb⟩
theorem stepD_tab {t : List Int} {w h : Int} {l : List Int} {x : List (ByteArray × Int) × Int} (ht : tabD t = some x) : stepD t w h l = some x := by unfold stepD; rw [ht]
theorem stepD_pat {t : List Int} {w h : Int} {l : List Int} {y : Int × Int} (ht : tabD t = none) (hp : patchErr w h l = some y) : stepD t w h l = some ([(opPlane, 1), (opPatch, y.1)], y.2) := by
  unfold stepD patchD
  rw [ht, hp]
  rfl
theorem stepD_arg {t : List Int} {w h : Int} {l : List Int} (ht : tabD t = none) (hp : patchErr w h l = none) (hc : w < 3 ∨ h < 3) : stepD t w h l = some ([(opPlane, 1)], 3) := by
  unfold stepD patchD
  rw [ht, hp]
  exact if_pos hc
theorem stepD_fin {t : List Int} {w h : Int} {l : List Int} (ht : tabD t = none) (hp : patchErr w h l = none) (hc : ¬ (w < 3 ∨ h < 3)) : stepD t w h l = none := by
  unfold stepD patchD
  rw [ht, hp]
  exact if_neg hc
set_option maxHeartbeats 16000000 in
theorem refstep22_any (w h : Int) (a aT : Option Addr) (n c nT cT : Nat) (l t : List Int) (W : World) (hR : SlI W a n c l) (hT : RK .i64 W aT nT t) (hmT : nT ≤ maxLen) :
    Calls Tryd.prog 27 #[.slice aT nT cT, patV w h a n c] W (PatRef W (stepO t w h l) (stepD t w h l)) := by
  have hm : n ≤ maxLen := hR.nm
  have T0 := Tk.nil W
  have T1 := T0.add (fun wv => Below W.heap.size W wv) (bnil W)
  clear T0
  have T2 := T1.add (fun wv => SlI wv a n c l) (hR)
  clear T1
  obtain ⟨Wb, hWb⟩ : ∃ Wb, ((W.alloc (.cells #[.int .i64 w, .int .i64 h, .slice a n c] 24)).alloc (.cells #[.int .i64 0, .int .i64 0, .slice none 0 0] 24)).alloc (.cells #[.int .i64 0, .slice none 0 0, .slice none 0 0] 48) = Wb := ⟨_, rfl⟩
  have hbWb : Below W.heap.size W Wb := by rw [← hWb]; exact balloc (balloc (balloc (bnil W) _) _) _
  have T3 := T2.up hbWb
  clear T2
  have T4 := T3.add (fun wv => wv.cell? ⟨W.heap.size, 0, none⟩ = some (.int .i64 w) ∧ wv.cell? ⟨W.heap.size, 1, none⟩ = some (.int .i64 h) ∧ wv.cell? ⟨W.heap.size, 2, none⟩ = some (.slice a n c)) (by rw [← hWb]; exact ⟨al000 (al000 (cnw (by simp) rfl)), al000 (al000 (cnw (by simp) rfl)), al000 (al000 (cnw (by simp) rfl))⟩)
  clear T3
  have HWb := Lib.hid hWb
  clear hWb hbWb
  have hz1 : Wb.heap[W.heap.size + 1]? = some (.cells #[.int .i64 0, .int .i64 0, .slice none 0 0] 24) := by
    rw [← HWb.out, (balloc (bnil _) (.cells #[.int .i64 0, .slice none 0 0, .slice none 0 0] 48)).block _ (by simp)]
    have := heap_alloc_new (W.alloc (.cells #[.int .i64 w, .int .i64 h, .slice a n c] 24)) (.cells #[.int .i64 0, .int .i64 0, .slice none 0 0] 24)
    simpa using this
  have hz2 : Wb.heap[W.heap.size + 1 + 1]? = some (.cells #[.int .i64 0, .slice none 0 0, .slice none 0 0] 48) := by
    rw [← HWb.out]
    have := heap_alloc_new ((W.alloc (.cells #[.int .i64 w, .int .i64 h, .slice a n c] 24)).alloc (.cells #[.int .i64 0, .int .i64 0, .slice none 0 0] 24)) (.cells #[.int .i64 0, .slice none 0 0, .slice none 0 0] 48)
    simpa using this
  have hsz : W.heap.size + 1 + 1 + 1 = Wb.heap.size := by rw [← HWb.out]; simp
  have T5 := T4.add (fun wv => wv.heap[W.heap.size + 1]? = some (.cells #[.int .i64 0, .int .i64 0, .slice none 0 0] 24)) (hz1)
  clear T4
  have T6 := T5.add (fun wv => wv.heap[W.heap.size + 1 + 1]? = some (.cells #[.int .i64 0, .slice none 0 0, .slice none 0 0] 48)) (hz2)
  clear T5
  have HSZ := Lib.hid hsz
  clear hz1 hz2 hsz
  have hTb : RK .i64 Wb aT nT t := hT.up (by rw [← HWb.out]; exact balloc (balloc (balloc (bnil W) _) _) _)
  have T7 := T6.add (fun wv => RK .i64 wv aT nT t) (hTb)
  clear T6
  clear hR hT hTb
  cases ht : tabD t with
  | some x =>
    have hsd := stepD_tab (w := w) (h := h) (l := l) ht
    have HOD := Lib.hid (And.intro (stepO_er hsd) hsd)
    have HT := Lib.hid ht
    clear hsd ht
    go_enter Tryd.func27, Tryd.ntmps27
    go_wp2_with fail
    rw [HWb.out]
    refine (refplcheck_any aT nT cT t Wb T7.out.2 hmT).mono ?_; rintro e w1 ⟨N, a1, n1, c1, a2, n2, c2, rfl, hw, f1, f2, hN, _, hbw1⟩
    have T8 := T7.up hbw1
    clear T7
    rw [HT.out] at hw hN
    have T9 := T8.add (fun wv => WC wv (.agg #[.int .i64 N, .slice a1 n1 c1, .slice a2 n2 c2]) (some x)) (hw)
    clear T8
    have HNS := Lib.hid hN
    have HF := Lib.hid (And.intro f1 f2)
    clear hw f1 f2 hN
    obtain ⟨we, hwe⟩ : ∃ we, w1.alloc (.cells #[.int .i64 N, .slice a1 n1 c1, .slice a2 n2 c2] 48) = we := ⟨_, rfl⟩
    have hbwe : Below w1.heap.size w1 we := by rw [← hwe]; exact balloc (bnil w1) _
    have T10 := T9.up hbwe
    clear T9
    have T11 := T10.add (fun wv => wv.cell? ⟨w1.heap.size, 0, none⟩ = some (.int .i64 N) ∧ wv.cell? ⟨w1.heap.size, 1, none⟩ = some (.slice a1 n1 c1) ∧ wv.cell? ⟨w1.heap.size, 2, none⟩ = some (.slice a2 n2 c2)) (by rw [← hwe]; exact ⟨cnw (by simp) rfl, cnw (by simp) rfl, cnw (by simp) rfl⟩)
    clear T10
    have Hwe := Lib.hid hwe
    clear hwe hbwe
    have v_e0 : (w1.alloc (.cells #[.int .i64 N, .slice a1 n1 c1, .slice a2 n2 c2] 48)).cell? ⟨w1.heap.size, 0, none⟩ = some (.int .i64 N) := by rw [Hwe.out]; exact T11.out.2.1
    have v_e1 : (w1.alloc (.cells #[.int .i64 N, .slice a1 n1 c1, .slice a2 n2 c2] 48)).cell? ⟨w1.heap.size, 1, none⟩ = some (.slice a1 n1 c1) := by rw [Hwe.out]; exact T11.out.2.2.1
    have v_e2 : (w1.alloc (.cells #[.int .i64 N, .slice a1 n1 c1, .slice a2 n2 c2] 48)).cell? ⟨w1.heap.size, 2, none⟩ = some (.slice a2 n2 c2) := by rw [Hwe.out]; exact T11.out.2.2.2
    go_wp2_with fail
    rw [Hwe.out]
    refine (refBadE _ _ _ we true HNS.out).mono ?_; rintro e w2 ⟨rfl, hbw2⟩
    clear v_e0 v_e1 v_e2
    have T12 := T11.up hbw2
    clear T11
    have v_e0 : w2.cell? ⟨w1.heap.size, 0, none⟩ = some (.int .i64 N) := T12.out.2.1
    have v_e1 : w2.cell? ⟨w1.heap.size, 1, none⟩ = some (.slice a1 n1 c1) := T12.out.2.2.1
    have v_e2 : w2.cell? ⟨w1.heap.size, 2, none⟩ = some (.slice a2 n2 c2) := T12.out.2.2.2
    go_wp2_with fail
    refine (refBadE _ _ _ w2 true HNS.out).mono ?_; rintro e w3 ⟨rfl, hbw3⟩
    clear v_e0 v_e1 v_e2
    have T13 := T12.up hbw3
    clear T12
    have v_e0 : w3.cell? ⟨w1.heap.size, 0, none⟩ = some (.int .i64 N) := T13.out.2.1
    have v_e1 : w3.cell? ⟨w1.heap.size, 1, none⟩ = some (.slice a1 n1 c1) := T13.out.2.2.1
    have v_e2 : w3.cell? ⟨w1.heap.size, 2, none⟩ = some (.slice a2 n2 c2) := T13.out.2.2.2
    obtain ⟨⟨q0, q1, q2⟩, f0, f1, f2⟩ := p_cells (T13.out.1.1.1.1.2)
    obtain ⟨⟨q3, q4, q5⟩, f3, f4, f5⟩ := p_cells (T13.out.1.1.1.2)
    obtain ⟨w9, e9, e9b, ⟨⟨r0, r1, r2⟩, r3, r4, r5⟩, hret⟩ := pr_err (show W.heap.size + 1 ≠ W.heap.size + 1 + 1 by omega) (T13.out.1.1.1.1.2) (T13.out.1.1.1.2) (show W.heap.size ≤ W.heap.size + 1 by omega) (show W.heap.size ≤ W.heap.size + 1 + 1 by omega) (T13.out.1.1.1.1.1.1.1.2) (B := Wb.heap.size) (by rw [← HSZ.out]; omega) (by rw [← HSZ.out]; omega) HF.out.1 HF.out.2 (T13.out.1.2) HNS.out
    have HRET := Lib.hid hret
    have HE9 := Lib.hid (And.intro e9 e9b)
    have HR9 := Lib.hid (And.intro r0 (And.intro r1 (And.intro r2 (And.intro r3 (And.intro r4 r5)))))
    clear hret e9 e9b r0 r1 r2 r3 r4 r5
    have sz1 := hbw1.size
    have sz0 := HSZ.out
    have ne1 : ¬ w1.heap.size = W.heap.size + 1 := by omega
    have ne2 : ¬ W.heap.size + 1 = w1.heap.size := by omega
    have ne3 : ¬ w1.heap.size = W.heap.size + 1 + 1 := by omega
    have ne4 : ¬ W.heap.size + 1 + 1 = w1.heap.size := by omega
    clear sz0 sz1
    go_wp2_with fail
    go_region
    all_goals
      go_wp2
      first | rw [HE9.out.1] | rw [HE9.out.2]
      have r0 := HR9.out.1
      have r1 := HR9.out.2.1
      have r2 := HR9.out.2.2.1
      have r3 := HR9.out.2.2.2.1
      have r4 := HR9.out.2.2.2.2.1
      have r5 := HR9.out.2.2.2.2.2
      refine bodyPost_ret (v := .tuple #[patV 0 0 none 0 0, .agg #[.int .i64 N, .slice a1 n1 c1, .slice a2 n2 c2]]) (by simp [results, Tryd.results27, go_sem, r0, r1, r2, r3, r4, r5]) rfl ?_
      rw [HOD.out.1, HOD.out.2]
      exact HRET.out.drew
  | none =>
    have HT := Lib.hid ht
    cases hpe : patchErr w h l with
    | some y =>
      have hsd := stepD_pat ht hpe
      have HOD := Lib.hid (And.intro (stepO_er hsd) hsd)
      have hq : patchD w h l = some ([(opPatch, y.1)], y.2) := by unfold patchD; rw [hpe]; rfl
      have HQ := Lib.hid hq
      clear hsd hq ht hpe
      go_enter Tryd.func27, Tryd.ntmps27
      go_wp2_with fail
      rw [HWb.out]
      refine (refplcheck_ok aT nT cT t Wb T7.out.2 hmT HT.out).mono ?_; rintro e w1 ⟨rfl, hbw1⟩
      have T8 := T7.up hbw1
      clear T7
      have TK1 := T8
      have T9 := T8.add (fun wv => Below w1.heap.size w1 wv) (bnil w1)
      clear T8
      obtain ⟨we, hwe⟩ : ∃ we, w1.alloc (.cells #[.int .i64 0, .slice none 0 0, .slice none 0 0] 48) = we := ⟨_, rfl⟩
      have hbwe : Below w1.heap.size w1 we := by rw [← hwe]; exact balloc (bnil w1) _
      have T10 := T9.up hbwe
      clear T9
      have T11 := T10.add (fun wv => wv.cell? ⟨w1.heap.size, 0, none⟩ = some (.int .i64 0) ∧ wv.cell? ⟨w1.heap.size, 1, none⟩ = some (.slice none 0 0) ∧ wv.cell? ⟨w1.heap.size, 2, none⟩ = some (.slice none 0 0)) (by rw [← hwe]; exact ⟨cnw (by simp) rfl, cnw (by simp) rfl, cnw (by simp) rfl⟩)
      clear T10
      have Hwe := Lib.hid hwe
      clear hwe hbwe
      have hze : we.heap[w1.heap.size]? = some (.cells #[.int .i64 0, .slice none 0 0, .slice none 0 0] 48) := by rw [← Hwe.out]; exact heap_alloc_new w1 _
      have T12 := T11.add (fun wv => wv.heap[w1.heap.size]? = some (.cells #[.int .i64 0, .slice none 0 0, .slice none 0 0] 48)) (hze)
      clear T11
      clear hze
      have v_e0 : (w1.alloc (.cells #[.int .i64 0, .slice none 0 0, .slice none 0 0] 48)).cell? ⟨w1.heap.size, 0, none⟩ = some (.int .i64 0) := by rw [Hwe.out]; exact T12.out.1.2.1
      have v_e1 : (w1.alloc (.cells #[.int .i64 0, .slice none 0 0, .slice none 0 0] 48)).cell? ⟨w1.heap.size, 1, none⟩ = some (.slice none 0 0) := by rw [Hwe.out]; exact T12.out.1.2.2.1
      have v_e2 : (w1.alloc (.cells #[.int .i64 0, .slice none 0 0, .slice none 0 0] 48)).cell? ⟨w1.heap.size, 2, none⟩ = some (.slice none 0 0) := by rw [Hwe.out]; exact T12.out.1.2.2.2
      go_wp2_with fail
      rw [Hwe.out]
      refine (refBadE _ _ _ we false rfl).mono ?_; rintro e w2 ⟨rfl, hbw2⟩
      clear v_e0 v_e1 v_e2
      have T13 := T12.up hbw2
      clear T12
      have v_p0 : w2.cell? ⟨W.heap.size, 0, none⟩ = some (.int .i64 w) := T13.out.1.1.1.1.1.1.2.1
      have v_p1 : w2.cell? ⟨W.heap.size, 1, none⟩ = some (.int .i64 h) := T13.out.1.1.1.1.1.1.2.2.1
      have v_p2 : w2.cell? ⟨W.heap.size, 2, none⟩ = some (.slice a n c) := T13.out.1.1.1.1.1.1.2.2.2
      go_wp2_with fail
      refine (refpcheck_any w h a n c l w2 (T13.out.1.1.1.1.1.1.1.2).rk hm).mono ?_; rintro e w3 ⟨N0, a1, n1, c1, a2, n2, c2, rfl, hw, _, _, _, _, hbw3⟩
      clear v_p0 v_p1 v_p2
      have T14 := T13.up hbw3
      clear T13
      rw [HQ.out] at hw
      obtain rfl := wc_numP hw
      have HW3 := Lib.hid hw
      clear hw
      go_wp2_with fail
      refine (refUnder_some _ _ _ _ a1 a2 n1 c1 n2 c2 w3 HW3.out (by simp) (by simp)).mono ?_; rintro e w4 ⟨N, b1, m1, d1, b2, m2, d2, rfl, hw, f1, f2, hN, _, hbw4⟩
      have T15 := T14.up hbw4
      clear T14
      obtain ⟨⟨q0, q1, q2⟩, dd0, dd1, dd2⟩ := p_cells (T15.out.2)
      obtain ⟨w5, e5, ⟨r0, r1, r2⟩, hk5, hs5, hb5⟩ := set3p (T15.out.2) (.int .i64 N) (.slice b1 m1 d1) (.slice b2 m2 d2)
      have hb15 : Below w1.heap.size w1 w5 := hb5 w1 w1.heap.size (Nat.le_refl _) (T15.out.1.1.2)
      have HE5 := Lib.hid e5
      have sz4 := hbw1.size
      have sz5 := Hwe.out
      have hl3 : w1.heap.size + 1 ≤ w3.heap.size := by
        have h1 : we.heap.size = w1.heap.size + 1 := by rw [← Hwe.out]; simp
        have h2 := hbw2.size
        have h3 := hbw3.size
        omega
      have hw5 := hw.other hk5 hs5 (f1.base hl3) (f2.base hl3)
      have HF : Hid (Fr Wb.heap.size b1 ∧ Fr Wb.heap.size b2) := ⟨f1.base (by omega), f2.base (by omega)⟩
      have HNS := Lib.hid hN
      clear sz4 sz5 hl3 hw f1 f2 hN hk5 hs5 hb5 e5
      have T900 := TK1.up hb15
      clear T15 TK1
      have T901 := T900.add (fun wv => wv.cell? ⟨w1.heap.size, 0, none⟩ = some (.int .i64 N) ∧ wv.cell? ⟨w1.heap.size, 1, none⟩ = some (.slice b1 m1 d1) ∧ wv.cell? ⟨w1.heap.size, 2, none⟩ = some (.slice b2 m2 d2)) (⟨r0, r1, r2⟩)
      clear T900
      have T902 := T901.add (fun wv => WC wv (.agg #[.int .i64 N, .slice b1 m1 d1, .slice b2 m2 d2]) (some ([(opPlane, 1), (opPatch, y.1)], y.2))) (hw5)
      clear T901
      clear r0 r1 r2 hw5 hb15
      go_wp2_with fail
      rw [HE5.out]
      clear q0 q1 q2 dd0 dd1 dd2
      have v_e0 : w5.cell? ⟨w1.heap.size, 0, none⟩ = some (.int .i64 N) := T902.out.1.2.1
      have v_e1 : w5.cell? ⟨w1.heap.size, 1, none⟩ = some (.slice b1 m1 d1) := T902.out.1.2.2.1
      have v_e2 : w5.cell? ⟨w1.heap.size, 2, none⟩ = some (.slice b2 m2 d2) := T902.out.1.2.2.2
      go_wp2_with fail
      refine (refBadE _ _ _ w5 true HNS.out).mono ?_; rintro e w6 ⟨rfl, hbw6⟩
      clear v_e0 v_e1 v_e2
      have T903 := T902.up hbw6
      clear T902
      have v_e0 : w6.cell? ⟨w1.heap.size, 0, none⟩ = some (.int .i64 N) := T903.out.1.2.1
      have v_e1 : w6.cell? ⟨w1.heap.size, 1, none⟩ = some (.slice b1 m1 d1) := T903.out.1.2.2.1
      have v_e2 : w6.cell? ⟨w1.heap.size, 2, none⟩ = some (.slice b2 m2 d2) := T903.out.1.2.2.2
      obtain ⟨⟨q0, q1, q2⟩, f0, f1, f2⟩ := p_cells (T903.out.1.1.1.1.2)
      obtain ⟨⟨q3, q4, q5⟩, f3, f4, f5⟩ := p_cells (T903.out.1.1.1.2)
      obtain ⟨w9, e9, e9b, ⟨⟨r0, r1, r2⟩, r3, r4, r5⟩, hret⟩ := pr_err (show W.heap.size + 1 ≠ W.heap.size + 1 + 1 by omega) (T903.out.1.1.1.1.2) (T903.out.1.1.1.2) (show W.heap.size ≤ W.heap.size + 1 by omega) (show W.heap.size ≤ W.heap.size + 1 + 1 by omega) (T903.out.1.1.1.1.1.1.1.2) (B := Wb.heap.size) (by rw [← HSZ.out]; omega) (by rw [← HSZ.out]; omega) HF.out.1 HF.out.2 (T903.out.2) HNS.out
      have HRET := Lib.hid hret
      have HE9 := Lib.hid (And.intro e9 e9b)
      have HR9 := Lib.hid (And.intro r0 (And.intro r1 (And.intro r2 (And.intro r3 (And.intro r4 r5)))))
      clear hret e9 e9b r0 r1 r2 r3 r4 r5
      have sz1 := hbw1.size
      have sz0 := HSZ.out
      have ne1 : ¬ w1.heap.size = W.heap.size + 1 := by omega
      have ne2 : ¬ W.heap.size + 1 = w1.heap.size := by omega
      have ne3 : ¬ w1.heap.size = W.heap.size + 1 + 1 := by omega
      have ne4 : ¬ W.heap.size + 1 + 1 = w1.heap.size := by omega
      clear sz0 sz1
      go_wp2_with fail
      go_region
      all_goals
        go_wp2
        first | rw [HE9.out.1] | rw [HE9.out.2]
        have r0 := HR9.out.1
        have r1 := HR9.out.2.1
        have r2 := HR9.out.2.2.1
        have r3 := HR9.out.2.2.2.1
        have r4 := HR9.out.2.2.2.2.1
        have r5 := HR9.out.2.2.2.2.2
        refine bodyPost_ret (v := .tuple #[patV 0 0 none 0 0, .agg #[.int .i64 N, .slice b1 m1 d1, .slice b2 m2 d2]]) (by simp [results, Tryd.results27, go_sem, r0, r1, r2, r3, r4, r5]) rfl ?_
        rw [HOD.out.1, HOD.out.2]
        exact HRET.out.drew
    | none =>
      obtain ⟨w, h, rfl, rfl, hp⟩ := patchErr_none hpe
      have HPP := Lib.hid hp
      by_cases hc : (w : Int) < 3 ∨ (h : Int) < 3
      · skip
        have hsd := stepD_arg ht hpe hc
        have HOD := Lib.hid (And.intro (stepO_er hsd) hsd)
        by_cases hc1 : w < 3
        · skip
          have hcI : (w : Int) < 3 := by omega
          clear hsd ht hpe hp hc hc1
          go_enter Tryd.func27, Tryd.ntmps27
          go_wp2_with fail
          rw [HWb.out]
          refine (refplcheck_ok aT nT cT t Wb T7.out.2 hmT HT.out).mono ?_; rintro e w1 ⟨rfl, hbw1⟩
          have T8 := T7.up hbw1
          clear T7
          have TK1 := T8
          have T9 := T8.add (fun wv => Below w1.heap.size w1 wv) (bnil w1)
          clear T8
          obtain ⟨we, hwe⟩ : ∃ we, w1.alloc (.cells #[.int .i64 0, .slice none 0 0, .slice none 0 0] 48) = we := ⟨_, rfl⟩
          have hbwe : Below w1.heap.size w1 we := by rw [← hwe]; exact balloc (bnil w1) _
          have T10 := T9.up hbwe
          clear T9
          have T11 := T10.add (fun wv => wv.cell? ⟨w1.heap.size, 0, none⟩ = some (.int .i64 0) ∧ wv.cell? ⟨w1.heap.size, 1, none⟩ = some (.slice none 0 0) ∧ wv.cell? ⟨w1.heap.size, 2, none⟩ = some (.slice none 0 0)) (by rw [← hwe]; exact ⟨cnw (by simp) rfl, cnw (by simp) rfl, cnw (by simp) rfl⟩)
          clear T10
          have Hwe := Lib.hid hwe
          clear hwe hbwe
          have hze : we.heap[w1.heap.size]? = some (.cells #[.int .i64 0, .slice none 0 0, .slice none 0 0] 48) := by rw [← Hwe.out]; exact heap_alloc_new w1 _
          have T12 := T11.add (fun wv => wv.heap[w1.heap.size]? = some (.cells #[.int .i64 0, .slice none 0 0, .slice none 0 0] 48)) (hze)
          clear T11
          clear hze
          have v_e0 : (w1.alloc (.cells #[.int .i64 0, .slice none 0 0, .slice none 0 0] 48)).cell? ⟨w1.heap.size, 0, none⟩ = some (.int .i64 0) := by rw [Hwe.out]; exact T12.out.1.2.1
          have v_e1 : (w1.alloc (.cells #[.int .i64 0, .slice none 0 0, .slice none 0 0] 48)).cell? ⟨w1.heap.size, 1, none⟩ = some (.slice none 0 0) := by rw [Hwe.out]; exact T12.out.1.2.2.1
          have v_e2 : (w1.alloc (.cells #[.int .i64 0, .slice none 0 0, .slice none 0 0] 48)).cell? ⟨w1.heap.size, 2, none⟩ = some (.slice none 0 0) := by rw [Hwe.out]; exact T12.out.1.2.2.2
          go_wp2_with fail
          rw [Hwe.out]
          refine (refBadE _ _ _ we false rfl).mono ?_; rintro e w2 ⟨rfl, hbw2⟩
          clear v_e0 v_e1 v_e2
          have T13 := T12.up hbw2
          clear T12
          have v_p0 : w2.cell? ⟨W.heap.size, 0, none⟩ = some (.int .i64 w) := T13.out.1.1.1.1.1.1.2.1
          have v_p1 : w2.cell? ⟨W.heap.size, 1, none⟩ = some (.int .i64 h) := T13.out.1.1.1.1.1.1.2.2.1
          have v_p2 : w2.cell? ⟨W.heap.size, 2, none⟩ = some (.slice a n c) := T13.out.1.1.1.1.1.1.2.2.2
          go_wp2_with fail
          refine (refpcheck_ok w h a n c l w2 (T13.out.1.1.1.1.1.1.1.2).rk hm HPP.out).mono ?_; rintro e w3 ⟨rfl, hbw3⟩
          clear v_p0 v_p1 v_p2
          have T14 := T13.up hbw3
          clear T13
          go_wp2_with fail
          refine (refUnder_z _ _ w3).mono ?_; rintro e w4 ⟨rfl, hbw4⟩
          have T15 := T14.up hbw4
          clear T14
          obtain ⟨⟨q0, q1, q2⟩, dd0, dd1, dd2⟩ := p_cells (T15.out.2)
          obtain ⟨w5, e5, ⟨r0, r1, r2⟩, hk5, hs5, hb5⟩ := set3p (T15.out.2) (.int .i64 0) (.slice none 0 0) (.slice none 0 0)
          have hb15 : Below w1.heap.size w1 w5 := hb5 w1 w1.heap.size (Nat.le_refl _) (T15.out.1.1.2)
          have HE5 := Lib.hid e5
          clear hk5 hs5 hb5 e5
          have T900 := TK1.up hb15
          clear T15 TK1
          have T901 := T900.add (fun wv => wv.cell? ⟨w1.heap.size, 0, none⟩ = some (.int .i64 0) ∧ wv.cell? ⟨w1.heap.size, 1, none⟩ = some (.slice none 0 0) ∧ wv.cell? ⟨w1.heap.size, 2, none⟩ = some (.slice none 0 0)) (⟨r0, r1, r2⟩)
          clear T900
          clear r0 r1 r2 hb15
          go_wp2_with fail
          rw [HE5.out]
          clear q0 q1 q2 dd0 dd1 dd2
          have v_e0 : w5.cell? ⟨w1.heap.size, 0, none⟩ = some (.int .i64 0) := T901.out.2.1
          have v_e1 : w5.cell? ⟨w1.heap.size, 1, none⟩ = some (.slice none 0 0) := T901.out.2.2.1
          have v_e2 : w5.cell? ⟨w1.heap.size, 2, none⟩ = some (.slice none 0 0) := T901.out.2.2.2
          go_wp2_with fail
          refine (refBadE _ _ _ w5 false rfl).mono ?_; rintro e w6 ⟨rfl, hbw6⟩
          clear v_e0 v_e1 v_e2
          have T902 := T901.up hbw6
          clear T901
          have v_p0 : w6.cell? ⟨W.heap.size, 0, none⟩ = some (.int .i64 w) := T902.out.1.1.1.1.2.1
          have v_p1 : w6.cell? ⟨W.heap.size, 1, none⟩ = some (.int .i64 h) := T902.out.1.1.1.1.2.2.1
          go_wp2_with fail
          refine (rawNew_fresh _ _ _ w6 rfl).mono ?_; rintro e w7 ⟨b1, b2, rfl, lb1, lb2, hw8, hbw7⟩
          clear v_p0 v_p1
          have hl6 := (T902.out.1.1.1.1.1.1.2).size
          have hl7 : Wb.heap.size ≤ w6.heap.size := by have := heap_ltT (T902.out.1.1.2); have := HSZ.out; omega
          have T903 := T902.up hbw7
          clear T902
          obtain ⟨⟨q0, q1, q2⟩, f0, f1, f2⟩ := p_cells (T903.out.1.1.1.2)
          obtain ⟨⟨q3, q4, q5⟩, f3, f4, f5⟩ := p_cells (T903.out.1.1.2)
          obtain ⟨w9, e9, e9b, ⟨⟨r0, r1, r2⟩, r3, r4, r5⟩, hret⟩ := pr_err (show W.heap.size + 1 ≠ W.heap.size + 1 + 1 by omega) (T903.out.1.1.1.2) (T903.out.1.1.2) (show W.heap.size ≤ W.heap.size + 1 by omega) (show W.heap.size ≤ W.heap.size + 1 + 1 by omega) (T903.out.1.1.1.1.1.1.2) (B := Wb.heap.size) (by rw [← HSZ.out]; omega) (by rw [← HSZ.out]; omega) (fr_some (by omega)) (fr_some (by omega)) (wc_want hw8) rfl
          clear hl6 hl7 lb1 lb2 hw8
          have HRET := Lib.hid hret
          have HE9 := Lib.hid (And.intro e9 e9b)
          have HR9 := Lib.hid (And.intro r0 (And.intro r1 (And.intro r2 (And.intro r3 (And.intro r4 r5)))))
          clear hret e9 e9b r0 r1 r2 r3 r4 r5
          go_wp2
          rw [HE9.out.1]
          have r0 := HR9.out.1
          have r1 := HR9.out.2.1
          have r2 := HR9.out.2.2.1
          have r3 := HR9.out.2.2.2.1
          have r4 := HR9.out.2.2.2.2.1
          have r5 := HR9.out.2.2.2.2.2
          refine bodyPost_ret (v := .tuple #[patV 0 0 none 0 0, .agg #[.int .i64 3, .slice (some ⟨b1, 0, none⟩) 1 1, .slice (some ⟨b2, 0, none⟩) 1 1]]) (by simp [results, Tryd.results27, go_sem, r0, r1, r2, r3, r4, r5]) rfl ?_
          rw [HOD.out.1, HOD.out.2]
          exact HRET.out
        · skip
          have hcI : ¬ (w : Int) < 3 := by omega
          have hcJ : (h : Int) < 3 := by omega
          clear hsd ht hpe hp hc hc1
          go_enter Tryd.func27, Tryd.ntmps27
          go_wp2_with fail
          rw [HWb.out]
          refine (refplcheck_ok aT nT cT t Wb T7.out.2 hmT HT.out).mono ?_; rintro e w1 ⟨rfl, hbw1⟩
          have T8 := T7.up hbw1
          clear T7
          have TK1 := T8
          have T9 := T8.add (fun wv => Below w1.heap.size w1 wv) (bnil w1)
          clear T8
          obtain ⟨we, hwe⟩ : ∃ we, w1.alloc (.cells #[.int .i64 0, .slice none 0 0, .slice none 0 0] 48) = we := ⟨_, rfl⟩
          have hbwe : Below w1.heap.size w1 we := by rw [← hwe]; exact balloc (bnil w1) _
          have T10 := T9.up hbwe
          clear T9
          have T11 := T10.add (fun wv => wv.cell? ⟨w1.heap.size, 0, none⟩ = some (.int .i64 0) ∧ wv.cell? ⟨w1.heap.size, 1, none⟩ = some (.slice none 0 0) ∧ wv.cell? ⟨w1.heap.size, 2, none⟩ = some (.slice none 0 0)) (by rw [← hwe]; exact ⟨cnw (by simp) rfl, cnw (by simp) rfl, cnw (by simp) rfl⟩)
          clear T10
          have Hwe := Lib.hid hwe
          clear hwe hbwe
          have hze : we.heap[w1.heap.size]? = some (.cells #[.int .i64 0, .slice none 0 0, .slice none 0 0] 48) := by rw [← Hwe.out]; exact heap_alloc_new w1 _
          have T12 := T11.add (fun wv => wv.heap[w1.heap.size]? = some (.cells #[.int .i64 0, .slice none 0 0, .slice none 0 0] 48)) (hze)
          clear T11
          clear hze
          have v_e0 : (w1.alloc (.cells #[.int .i64 0, .slice none 0 0, .slice none 0 0] 48)).cell? ⟨w1.heap.size, 0, none⟩ = some (.int .i64 0) := by rw [Hwe.out]; exact T12.out.1.2.1
          have v_e1 : (w1.alloc (.cells #[.int .i64 0, .slice none 0 0, .slice none 0 0] 48)).cell? ⟨w1.heap.size, 1, none⟩ = some (.slice none 0 0) := by rw [Hwe.out]; exact T12.out.1.2.2.1
          have v_e2 : (w1.alloc (.cells #[.int .i64 0, .slice none 0 0, .slice none 0 0] 48)).cell? ⟨w1.heap.size, 2, none⟩ = some (.slice none 0 0) := by rw [Hwe.out]; exact T12.out.1.2.2.2
          go_wp2_with fail
          rw [Hwe.out]
          refine (refBadE _ _ _ we false rfl).mono ?_; rintro e w2 ⟨rfl, hbw2⟩
          clear v_e0 v_e1 v_e2
          have T13 := T12.up hbw2
          clear T12
          have v_p0 : w2.cell? ⟨W.heap.size, 0, none⟩ = some (.int .i64 w) := T13.out.1.1.1.1.1.1.2.1
          have v_p1 : w2.cell? ⟨W.heap.size, 1, none⟩ = some (.int .i64 h) := T13.out.1.1.1.1.1.1.2.2.1
          have v_p2 : w2.cell? ⟨W.heap.size, 2, none⟩ = some (.slice a n c) := T13.out.1.1.1.1.1.1.2.2.2
          go_wp2_with fail
          refine (refpcheck_ok w h a n c l w2 (T13.out.1.1.1.1.1.1.1.2).rk hm HPP.out).mono ?_; rintro e w3 ⟨rfl, hbw3⟩
          clear v_p0 v_p1 v_p2
          have T14 := T13.up hbw3
          clear T13
          go_wp2_with fail
          refine (refUnder_z _ _ w3).mono ?_; rintro e w4 ⟨rfl, hbw4⟩
          have T15 := T14.up hbw4
          clear T14
          obtain ⟨⟨q0, q1, q2⟩, dd0, dd1, dd2⟩ := p_cells (T15.out.2)
          obtain ⟨w5, e5, ⟨r0, r1, r2⟩, hk5, hs5, hb5⟩ := set3p (T15.out.2) (.int .i64 0) (.slice none 0 0) (.slice none 0 0)
          have hb15 : Below w1.heap.size w1 w5 := hb5 w1 w1.heap.size (Nat.le_refl _) (T15.out.1.1.2)
          have HE5 := Lib.hid e5
          clear hk5 hs5 hb5 e5
          have T900 := TK1.up hb15
          clear T15 TK1
          have T901 := T900.add (fun wv => wv.cell? ⟨w1.heap.size, 0, none⟩ = some (.int .i64 0) ∧ wv.cell? ⟨w1.heap.size, 1, none⟩ = some (.slice none 0 0) ∧ wv.cell? ⟨w1.heap.size, 2, none⟩ = some (.slice none 0 0)) (⟨r0, r1, r2⟩)
          clear T900
          clear r0 r1 r2 hb15
          go_wp2_with fail
          rw [HE5.out]
          clear q0 q1 q2 dd0 dd1 dd2
          have v_e0 : w5.cell? ⟨w1.heap.size, 0, none⟩ = some (.int .i64 0) := T901.out.2.1
          have v_e1 : w5.cell? ⟨w1.heap.size, 1, none⟩ = some (.slice none 0 0) := T901.out.2.2.1
          have v_e2 : w5.cell? ⟨w1.heap.size, 2, none⟩ = some (.slice none 0 0) := T901.out.2.2.2
          go_wp2_with fail
          refine (refBadE _ _ _ w5 false rfl).mono ?_; rintro e w6 ⟨rfl, hbw6⟩
          clear v_e0 v_e1 v_e2
          have T902 := T901.up hbw6
          clear T901
          have v_p0 : w6.cell? ⟨W.heap.size, 0, none⟩ = some (.int .i64 w) := T902.out.1.1.1.1.2.1
          have v_p1 : w6.cell? ⟨W.heap.size, 1, none⟩ = some (.int .i64 h) := T902.out.1.1.1.1.2.2.1
          go_wp2_with fail
          refine (rawNew_fresh _ _ _ w6 rfl).mono ?_; rintro e w7 ⟨b1, b2, rfl, lb1, lb2, hw8, hbw7⟩
          clear v_p0 v_p1
          have hl6 := (T902.out.1.1.1.1.1.1.2).size
          have hl7 : Wb.heap.size ≤ w6.heap.size := by have := heap_ltT (T902.out.1.1.2); have := HSZ.out; omega
          have T903 := T902.up hbw7
          clear T902
          obtain ⟨⟨q0, q1, q2⟩, f0, f1, f2⟩ := p_cells (T903.out.1.1.1.2)
          obtain ⟨⟨q3, q4, q5⟩, f3, f4, f5⟩ := p_cells (T903.out.1.1.2)
          obtain ⟨w9, e9, e9b, ⟨⟨r0, r1, r2⟩, r3, r4, r5⟩, hret⟩ := pr_err (show W.heap.size + 1 ≠ W.heap.size + 1 + 1 by omega) (T903.out.1.1.1.2) (T903.out.1.1.2) (show W.heap.size ≤ W.heap.size + 1 by omega) (show W.heap.size ≤ W.heap.size + 1 + 1 by omega) (T903.out.1.1.1.1.1.1.2) (B := Wb.heap.size) (by rw [← HSZ.out]; omega) (by rw [← HSZ.out]; omega) (fr_some (by omega)) (fr_some (by omega)) (wc_want hw8) rfl
          clear hl6 hl7 lb1 lb2 hw8
          have HRET := Lib.hid hret
          have HE9 := Lib.hid (And.intro e9 e9b)
          have HR9 := Lib.hid (And.intro r0 (And.intro r1 (And.intro r2 (And.intro r3 (And.intro r4 r5)))))
          clear hret e9 e9b r0 r1 r2 r3 r4 r5
          go_wp2
          rw [HE9.out.1]
          have r0 := HR9.out.1
          have r1 := HR9.out.2.1
          have r2 := HR9.out.2.2.1
          have r3 := HR9.out.2.2.2.1
          have r4 := HR9.out.2.2.2.2.1
          have r5 := HR9.out.2.2.2.2.2
          refine bodyPost_ret (v := .tuple #[patV 0 0 none 0 0, .agg #[.int .i64 3, .slice (some ⟨b1, 0, none⟩) 1 1, .slice (some ⟨b2, 0, none⟩) 1 1]]) (by simp [results, Tryd.results27, go_sem, r0, r1, r2, r3, r4, r5]) rfl ?_
          rw [HOD.out.1, HOD.out.2]
          exact HRET.out
      have hsd := stepD_fin ht hpe hc
      have hIT := tabD_none ht
      have hw3 : 3 ≤ w := by omega
      have hh3 : 3 ≤ h := by omega
      have HOD := Lib.hid (And.intro (stepO_ok hsd hw3 hh3) hsd)
      obtain ⟨WN, hWN⟩ : ∃ WN, w - 2 = WN := ⟨_, rfl⟩
      obtain ⟨HN, hHN⟩ : ∃ HN, h - 2 = HN := ⟨_, rfl⟩
      obtain ⟨LL, hLL⟩ : ∃ LL, stepL t w h l = LL := ⟨_, rfl⟩
      have HIT := Lib.hid hIT
      have hcI : ¬ (w : Int) < 3 := by omega
      have hcJ : ¬ (h : Int) < 3 := by omega
      have hcIb : decide ((w : Int) < 3) = false := decide_eq_false hcI
      have hcJb : decide ((h : Int) < 3) = false := decide_eq_false hcJ
      have HEQ := Lib.hid (And.intro hWN (And.intro hHN hLL))
      clear hsd hIT ht hpe hp hc hWN hHN hLL
      obtain rfl : nT = 512 := (T7.out.2).len.trans HIT.out.len
      go_enter Tryd.func27, Tryd.ntmps27
      go_wp2_with fail
      rw [HWb.out]
      refine (refplcheck_ok aT 512 cT t Wb T7.out.2 hmT HT.out).mono ?_; rintro e w1 ⟨rfl, hbw1⟩
      have T8 := T7.up hbw1
      clear T7
      have TK1 := T8
      have T9 := T8.add (fun wv => Below w1.heap.size w1 wv) (bnil w1)
      clear T8
      obtain ⟨we, hwe⟩ : ∃ we, w1.alloc (.cells #[.int .i64 0, .slice none 0 0, .slice none 0 0] 48) = we := ⟨_, rfl⟩
      have hbwe : Below w1.heap.size w1 we := by rw [← hwe]; exact balloc (bnil w1) _
      have T10 := T9.up hbwe
      clear T9
      have T11 := T10.add (fun wv => wv.cell? ⟨w1.heap.size, 0, none⟩ = some (.int .i64 0) ∧ wv.cell? ⟨w1.heap.size, 1, none⟩ = some (.slice none 0 0) ∧ wv.cell? ⟨w1.heap.size, 2, none⟩ = some (.slice none 0 0)) (by rw [← hwe]; exact ⟨cnw (by simp) rfl, cnw (by simp) rfl, cnw (by simp) rfl⟩)
      clear T10
      have Hwe := Lib.hid hwe
      clear hwe hbwe
      have hze : we.heap[w1.heap.size]? = some (.cells #[.int .i64 0, .slice none 0 0, .slice none 0 0] 48) := by rw [← Hwe.out]; exact heap_alloc_new w1 _
      have T12 := T11.add (fun wv => wv.heap[w1.heap.size]? = some (.cells #[.int .i64 0, .slice none 0 0, .slice none 0 0] 48)) (hze)
      clear T11
      clear hze
      have v_e0 : (w1.alloc (.cells #[.int .i64 0, .slice none 0 0, .slice none 0 0] 48)).cell? ⟨w1.heap.size, 0, none⟩ = some (.int .i64 0) := by rw [Hwe.out]; exact T12.out.1.2.1
      have v_e1 : (w1.alloc (.cells #[.int .i64 0, .slice none 0 0, .slice none 0 0] 48)).cell? ⟨w1.heap.size, 1, none⟩ = some (.slice none 0 0) := by rw [Hwe.out]; exact T12.out.1.2.2.1
      have v_e2 : (w1.alloc (.cells #[.int .i64 0, .slice none 0 0, .slice none 0 0] 48)).cell? ⟨w1.heap.size, 2, none⟩ = some (.slice none 0 0) := by rw [Hwe.out]; exact T12.out.1.2.2.2
      go_wp2_with fail
      rw [Hwe.out]
      refine (refBadE _ _ _ we false rfl).mono ?_; rintro e w2 ⟨rfl, hbw2⟩
      clear v_e0 v_e1 v_e2
      have T13 := T12.up hbw2
      clear T12
      have v_p0 : w2.cell? ⟨W.heap.size, 0, none⟩ = some (.int .i64 w) := T13.out.1.1.1.1.1.1.2.1
      have v_p1 : w2.cell? ⟨W.heap.size, 1, none⟩ = some (.int .i64 h) := T13.out.1.1.1.1.1.1.2.2.1
      have v_p2 : w2.cell? ⟨W.heap.size, 2, none⟩ = some (.slice a n c) := T13.out.1.1.1.1.1.1.2.2.2
      go_wp2_with fail
      refine (refpcheck_ok w h a n c l w2 (T13.out.1.1.1.1.1.1.1.2).rk hm HPP.out).mono ?_; rintro e w3 ⟨rfl, hbw3⟩
      clear v_p0 v_p1 v_p2
      have T14 := T13.up hbw3
      clear T13
      go_wp2_with fail
      refine (refUnder_z _ _ w3).mono ?_; rintro e w4 ⟨rfl, hbw4⟩
      have T15 := T14.up hbw4
      clear T14
      obtain ⟨⟨q0, q1, q2⟩, dd0, dd1, dd2⟩ := p_cells (T15.out.2)
      obtain ⟨w5, e5, ⟨r0, r1, r2⟩, hk5, hs5, hb5⟩ := set3p (T15.out.2) (.int .i64 0) (.slice none 0 0) (.slice none 0 0)
      have hb15 : Below w1.heap.size w1 w5 := hb5 w1 w1.heap.size (Nat.le_refl _) (T15.out.1.1.2)
      have HE5 := Lib.hid e5
      clear hk5 hs5 hb5 e5
      have T900 := TK1.up hb15
      clear T15 TK1
      have T901 := T900.add (fun wv => wv.cell? ⟨w1.heap.size, 0, none⟩ = some (.int .i64 0) ∧ wv.cell? ⟨w1.heap.size, 1, none⟩ = some (.slice none 0 0) ∧ wv.cell? ⟨w1.heap.size, 2, none⟩ = some (.slice none 0 0)) (⟨r0, r1, r2⟩)
      clear T900
      clear r0 r1 r2 hb15
      go_wp2_with fail
      rw [HE5.out]
      clear q0 q1 q2 dd0 dd1 dd2
      have v_e0 : w5.cell? ⟨w1.heap.size, 0, none⟩ = some (.int .i64 0) := T901.out.2.1
      have v_e1 : w5.cell? ⟨w1.heap.size, 1, none⟩ = some (.slice none 0 0) := T901.out.2.2.1
      have v_e2 : w5.cell? ⟨w1.heap.size, 2, none⟩ = some (.slice none 0 0) := T901.out.2.2.2
      go_wp2_with fail
      refine (refBadE _ _ _ w5 false rfl).mono ?_; rintro e w6 ⟨rfl, hbw6⟩
      clear v_e0 v_e1 v_e2
      have T902 := T901.up hbw6
      clear T901
      have v_p0 : w6.cell? ⟨W.heap.size, 0, none⟩ = some (.int .i64 w) := T902.out.1.1.1.1.2.1
      have v_p1 : w6.cell? ⟨W.heap.size, 1, none⟩ = some (.int .i64 h) := T902.out.1.1.1.1.2.2.1
      have v_p2 : w6.cell? ⟨W.heap.size, 2, none⟩ = some (.slice a n c) := T902.out.1.1.1.1.2.2.2
      go_wp2_with fail
      refine (refimage w h WN HN a aT n c cT l t LL w6 T902.out.1.1.1.1.1.2 T902.out.1.2 HIT.out HPP.out hw3 hh3 HEQ.out.1 HEQ.out.2.1 HEQ.out.2.2).mono ?_; rintro e w7 ⟨a7, n7, c7, rfl, ho7, hbw7⟩
      clear v_p0 v_p1 v_p2
      have hl7 : Wb.heap.size ≤ w6.heap.size := by have := heap_ltT (T902.out.1.1.2); have := HSZ.out; omega
      have T903 := T902.up hbw7
      clear T902
      obtain ⟨⟨q0, q1, q2⟩, f0, f1, f2⟩ := p_cells (T903.out.1.1.1.2)
      obtain ⟨⟨q3, q4, q5⟩, f3, f4, f5⟩ := p_cells (T903.out.1.1.2)
      obtain ⟨w9, e9, e9b, ⟨⟨r0, r1, r2⟩, r3, r4, r5⟩, hret⟩ := pr_ok (H := WN) (K := HN) (show W.heap.size + 1 ≠ W.heap.size + 1 + 1 by omega) (T903.out.1.1.1.2) (T903.out.1.1.2) (show W.heap.size ≤ W.heap.size + 1 by omega) (show W.heap.size ≤ W.heap.size + 1 + 1 by omega) (T903.out.1.1.1.1.1.1.2) (B := Wb.heap.size) (by rw [← HSZ.out]; omega) (by rw [← HSZ.out]; omega) (ho7.base hl7)
      clear hl7 ho7
      have HRET := Lib.hid hret
      have HE9 := Lib.hid (And.intro e9 e9b)
      have HR9 := Lib.hid (And.intro r0 (And.intro r1 (And.intro r2 (And.intro r3 (And.intro r4 r5)))))
      clear hret e9 e9b r0 r1 r2 r3 r4 r5
      go_wp2
      rw [HE9.out.1]
      have r0 := HR9.out.1
      have r1 := HR9.out.2.1
      have r2 := HR9.out.2.2.1
      have r3 := HR9.out.2.2.2.1
      have r4 := HR9.out.2.2.2.2.1
      have r5 := HR9.out.2.2.2.2.2
      refine bodyPost_ret (v := .tuple #[patV WN HN a7 n7 c7, .agg #[.int .i64 0, .slice none 0 0, .slice none 0 0]]) (by simp [results, Tryd.results27, go_sem, r0, r1, r2, r3, r4, r5]) rfl ?_
      rw [HOD.out.1, HOD.out.2]
      rw [HEQ.out.1, HEQ.out.2.1, HEQ.out.2.2]
      exact HRET.out
end Go.Proofs.YtocfkmdoalhjmaaDoor
