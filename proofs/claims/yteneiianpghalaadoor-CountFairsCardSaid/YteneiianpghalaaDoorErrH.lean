/- The contract of edenraw.Under. -/
import Derived.Test.YteneiianpghalaaDoorErrB
import Derived.Test.YteneiianpghalaaDoorBase
import Derived.Deep.RegionHeld3
namespace Go.Proofs.YteneiianpghalaaDoor
open Go.RowKit
set_option linter.unusedVariables false
set_option maxRecDepth 100000

theorem al1 {w : World} {a : Addr} {v : Value} {o : Obj} (h : w.cell? a = some v) : (w.alloc o).drew.cell? a = some v := (Below.drew (balloc (bnil w) o)).cell (World.block_lt_of_cell? _ _ h) |>.trans h
theorem al2 {w : World} {a : Addr} {v : Value} {o o' : Obj} (h : w.cell? a = some v) : ((w.alloc o).alloc o').drew.cell? a = some v := (Below.drew (balloc (balloc (bnil w) o) o')).cell (World.block_lt_of_cell? _ _ h) |>.trans h
theorem vd1 {w : World} {o : Obj} : Below w.heap.size w (w.alloc o).drew := Below.drew (balloc (bnil w) o)
theorem vd0 {w : World} {o : Obj} : Below w.heap.size w (w.alloc o) := balloc (bnil w) o
theorem lit0 {w : World} {u : Value} {e : TypeId} : (w.alloc (.cells #[u] e)).cell? ⟨w.heap.size, 0, none⟩ = some u := by simp
theorem al0 {w : World} {a : Addr} {v : Value} {o : Obj} (h : w.cell? a = some v) : (w.alloc o).cell? a = some v := (balloc (bnil w) o).cell (World.block_lt_of_cell? _ _ h) |>.trans h
theorem vd2 {w : World} {o o' : Obj} : Below w.heap.size w ((w.alloc o).alloc o').drew := Below.drew (balloc (balloc (bnil w) o) o')
theorem lit1 {w : World} {u : Value} {e : TypeId} : (w.alloc (.cells #[u] e)).drew.cell? ⟨w.heap.size, 0, none⟩ = some u := by simp
theorem lit2a {w : World} {u : Value} {e : TypeId} {o : Obj} : ((w.alloc (.cells #[u] e)).alloc o).drew.cell? ⟨w.heap.size, 0, none⟩ = some u := by simp
theorem lit2b {w : World} {u : Value} {e : TypeId} {o : Obj} : ((w.alloc o).alloc (.cells #[u] e)).drew.cell? ⟨w.heap.size + 1, 0, none⟩ = some u := by
  have : (w.alloc o).heap.size = w.heap.size + 1 := by simp
  rw [← this]
  exact lit1
theorem cpb {w w' : World} {a : Addr} {v : Value} (hb : Below w.heap.size w w') (h : w.cell? a = some v) : w'.cell? a = some v := (hb.cell (World.block_lt_of_cell? _ _ h)).trans h
theorem set3_cell {w : World} {a : Addr} {v u0 u1 u2 : Value} {g : Nat} (h : w.cell? a = some v) (hne : a.block ≠ g) : (((w.setCell ⟨g, 0, none⟩ u0).setCell ⟨g, 1, none⟩ u1).setCell ⟨g, 2, none⟩ u2).cell? a = some v := by
  rw [World.cell?_of_block (w := w)]
  · exact h
  · rw [Below.heap_setCell _ _ _ _ hne, Below.heap_setCell _ _ _ _ hne, Below.heap_setCell _ _ _ _ hne]
section
variable {P : Program} {ops : Array Oper} {rest : List Oper} {o : Oper} {a : Act} {Q : Exit → Act → World → Prop}
/-- append([]T{u}, x...) of one or more: a new row -/
theorem stg {w : World} {K : Act → World → Prop} {E : Prop} (hg : o.guard = none) (s x : Operand) (t : TypeId) (hop : o.op = .call { callee := .builtin .append, args := #[s, x], argTypes := #[t, t] })
    {e : TypeId} {z : Value} {bytes : Nat} (T : ET P t e z 1 bytes) (g : Nat) (u : Value) (hs : a.eval s = .slice (some ⟨g, 0, none⟩) 1 1) (hu : w.cell? ⟨g, 0, none⟩ = some u)
    (ad : Option Addr) (m c : Nat) (news : List Value) (hx : a.eval x = .slice ad m c) (hm : 0 < m) (hR : Rd w ad m 1 news) (b1 : 1 + m ≤ maxLen) (b2 : (1 + m) * bytes ≤ 140737488355328)
    (hK : ∀ g' c' w', g' = w.heap.size → w'.ownsRow w.heap.size e 1 (.slice (some ⟨g', 0, none⟩) (1 + m) c') (1 + m) (u :: news) → Below w.heap.size w w' → K (a.put o.dst (.slice (some ⟨g', 0, none⟩) (1 + m) c')) w') :
    if Region.wanted o (yielded ops a.tmps) = true then Oper.wp P o a w K Q else E := by
  have hw : Region.wanted o (yielded ops a.tmps) = true := by simp [Region.wanted, hg]
  rw [if_pos hw]
  obtain ⟨i, hi, hz, h4, h5⟩ := T.hi
  have hzs := T.hzs
  subst h5
  obtain ⟨b, of, rfl, hlt, hc⟩ : ∃ b o, ad = some ⟨b, o, none⟩ ∧ b < w.heap.size ∧ ∀ j v, news[j]? = some v → w.cell? ⟨b, o + j, none⟩ = some v := by
    rcases hR.2 with h0 | h
    · omega
    · exact h
  have hl : news.length = m * i.size := by rw [h4]; exact hR.1
  have hrun := run_append_grow (P := P) (w := w) t o.type e i z T.ht hi hz ⟨g, 0, none⟩ 1 1 [u] (by rw [h4]; rfl) (fun j v hv => by
    cases j with
    | zero => simp at hv; subst hv; rw [Addr.add_lit]; exact hu
    | succ j => simp at hv) ⟨b, of, none⟩ m c news hl (fun j v hv => by rw [Addr.add_lit]; exact hc j v hv) (by omega) (by unfold maxLen at b1; omega) (growslice_fits (by omega) b2)
  have hge := grownCap_ge w (1 + m) 1 e
  have hcm : grownCap w (1 + m) 1 e ≤ maxLen := grownCap_le_maxLen w (1 + m) 1 e b1
  have hbel : Below w.heap.size w (w.drew.alloc (.cells (#[u] ++ news.toArray ++ Builtin.zeroCells z.cells (grownCap w (1 + m) 1 e - (1 + m))) e)) := (Below.drew (bnil w)).alloc (Nat.le_refl _) _
  have hn1 : news.length = m := by rw [hl, h4, Nat.mul_one]
  have hown : (w.drew.alloc (.cells (#[u] ++ news.toArray ++ Builtin.zeroCells z.cells (grownCap w (1 + m) 1 e - (1 + m))) e)).ownsRow w.heap.size e 1 (.slice (some ⟨w.heap.size, 0, none⟩) (1 + m) (grownCap w (1 + m) 1 e)) (1 + m) (u :: news) := by
    refine ⟨by simp; omega, .inr ⟨w.heap.size, _, _, rfl, Nat.le_refl _, heap_alloc_new w.drew _, hge, hcm, ?_, ?_⟩⟩
    · simp only [Array.size_append, List.size_toArray, size_zeroCells, hzs, hn1, List.length_cons, List.length_nil]
      omega
    · simp only [Array.toList_append, List.append_assoc]
      rw [← List.append_assoc]
      rw [show (1 + m) * 1 = ((#[u] : Array Value).toList ++ news.toArray.toList).length by simp; omega]
      exact List.take_left
  unfold Oper.wp
  simp [execOp, hop, resolve, invoke, builtin, hs, hx, Result.andThen]
  rw [hrun]
  exact hK _ _ _ rfl hown hbel
end

theorem refUnder_none (op : ByteArray) (at_ : Int) (W : World) : Calls Tryd.prog 92 #[.string op, .int .i64 at_, .agg #[.int .i64 0, .slice none 0 0, .slice none 0 0]] W (RefRet W none) := by
  go_enter Tryd.func92, Tryd.ntmps92
  go_wp2
  refine bodyPost_ret (v := .agg #[.int .i64 0, .slice none 0 0, .slice none 0 0]) (by simp [results, Tryd.results92, go_sem]) rfl ?_
  exact ⟨_, _, _, _, _, _, _, rfl, wc_none _, fr_none, fr_none, rfl, fun _ => ⟨rfl, rfl, rfl, rfl, rfl, rfl, rfl⟩, balloc (balloc (bnil W) _) _⟩

theorem under_fin {w w9 : World} {g g5 g7 c5 c7 m : Nat} {N at_ : Int} {op : ByteArray} {es : List (ByteArray × Int)} (hm : es.length = m) (hl : m < 1000) (hN : (N == 0) = false) (hk : ∀ k, k ≠ g → w9.heap[k]? = w.heap[k]?) (hs : w9.heap.size = w.heap.size)
    (r5 : Rd w (some ⟨g5, 0, none⟩) (1 + m) 1 (Value.string op :: es.map fun x => Value.string x.1)) (r7 : Rd w (some ⟨g7, 0, none⟩) (1 + m) 1 (Value.int .i64 at_ :: es.map fun x => Value.int .i64 x.2)) (h5 : g + 1 ≤ g5) (h7 : g + 1 ≤ g7) :
    WC w9 (.agg #[.int .i64 N, .slice (some ⟨g5, 0, none⟩) (1 + m) c5, .slice (some ⟨g7, 0, none⟩) (1 + m) c7]) (some ((op, at_) :: es, N)) := by
  subst hm
  refine ⟨⟨some ⟨g5, 0, none⟩, some ⟨g7, 0, none⟩, c5, c7, by simp [Nat.add_comm], rfl, rfl, ?_, ?_, by simp; omega⟩, hN⟩
  · have := r5.oth hk hs fun b o e => by cases e; omega
    rw [Nat.add_comm] at this
    exact this
  · have := r7.oth hk hs fun b o e => by cases e; omega
    rw [Nat.add_comm] at this
    exact this

set_option maxHeartbeats 4000000 in
theorem refUnder_some (op : ByteArray) (at_ N : Int) (es : List (ByteArray × Int)) (a1 a2 : Option Addr) (n1 c1 n2 c2 : Nat) (W : World) (hw : WC W (.agg #[.int .i64 N, .slice a1 n1 c1, .slice a2 n2 c2]) (some (es, N))) (hl : es.length < 1000) (hl0 : 0 < es.length) :
    Calls Tryd.prog 92 #[.string op, .int .i64 at_, .agg #[.int .i64 N, .slice a1 n1 c1, .slice a2 n2 c2]] W (RefRet W (some ((op, at_) :: es, N))) := by
  obtain ⟨⟨ao, aa, co, ca, e, hw⟩, hN⟩ := hw
  simp only [Value.agg.injEq, Array.mk.injEq, List.cons.injEq, Value.slice.injEq] at e
  obtain ⟨_, ⟨rfl, rfl, rfl⟩, ⟨rfl, rfl, rfl⟩, _⟩ := e
  have HO := Lib.hid hw.ops
  have HA := Lib.hid hw.ats
  have HN := Lib.hid hN
  obtain ⟨m, hm⟩ : ∃ m, es.length = m := ⟨_, rfl⟩
  have HLM := Lib.hid hm
  rw [hm] at hl hl0
  have e1 := HO.out
  have e2 := HA.out
  rw [hm] at e1 e2
  have HO := Lib.hid e1
  have HA := Lib.hid e2
  clear hw e1 e2 hm
  rw [HLM.out]
  obtain ⟨Wb, hWb⟩ : ∃ Wb, (W.alloc (.cells #[.int .i64 N, .slice a1 m c1, .slice a2 m c2] 53)).alloc (.cells #[.int .i64 0, .slice none 0 0, .slice none 0 0] 53) = Wb := ⟨_, rfl⟩
  have HX : Hid (Wb.cell? ⟨W.heap.size, 0, none⟩ = some (.int .i64 N) ∧ Wb.cell? ⟨W.heap.size, 1, none⟩ = some (.slice a1 m c1) ∧ Wb.cell? ⟨W.heap.size, 2, none⟩ = some (.slice a2 m c2)) := by rw [← hWb]; exact ⟨(balloc (bnil _) _).cell (by simp) |>.trans (by simp), (balloc (bnil _) _).cell (by simp) |>.trans (by simp), (balloc (bnil _) _).cell (by simp) |>.trans (by simp)⟩
  have HBX : Hid (Below W.heap.size W Wb) := by rw [← hWb]; exact balloc (balloc (bnil W) _) _
  have HSZ : Hid (Wb.heap.size = W.heap.size + 2) := by show _ = _; rw [← hWb]; simp
  have HBX1 := Lib.hid (balloc (bnil W) (.cells #[.int .i64 N, .slice a1 m c1, .slice a2 m c2] 53))
  have HOB := Lib.hid (HO.out.up HBX.out)
  have HAB := Lib.hid (HA.out.up HBX.out)
  have x0 := HX.out.1
  have x1 := HX.out.2.1
  have x2 := HX.out.2.2
  have HWB := Lib.hid hWb; clear hWb
  go_enter Tryd.func92, Tryd.ntmps92
  go_wp2_with fail
  rw [HWB.out]
  have y0 : Wb.drew.cell? ⟨W.heap.size, 0, none⟩ = some (.int .i64 N) := x0
  have y1 : Wb.drew.cell? ⟨W.heap.size, 1, none⟩ = some (.slice a1 m c1) := x1
  have y2 : Wb.drew.cell? ⟨W.heap.size, 2, none⟩ = some (.slice a2 m c2) := x2
  have hne : W.heap.size ≠ W.heap.size + 1 := by omega
  have hlt : W.heap.size < Wb.heap.size := by have := HSZ.out; omega
  go_region_held3 (fun w' => w'.cell? ⟨W.heap.size, 0, none⟩ = some (.int .i64 N) ∧ w'.cell? ⟨W.heap.size, 1, none⟩ = some (.slice a1 m c1) ∧ w'.cell? ⟨W.heap.size, 2, none⟩ = some (.slice a2 m c2))
    (first | with_reducible exact ⟨y0, y1, y2⟩ | with_reducible exact ⟨al1 x0, al1 x1, al1 x2⟩ | with_reducible exact ⟨al2 x0, al2 x1, al2 x2⟩ | with_reducible exact ⟨s50, s51, s52⟩ | with_reducible exact ⟨s70, s71, s72⟩ | with_reducible exact ⟨al0 s50, al0 s51, al0 s52⟩ | with_reducible exact ⟨al0 s70, al0 s71, al0 s72⟩ | with_reducible exact ⟨al1 s50, al1 s51, al1 s52⟩ | with_reducible exact ⟨al1 s70, al1 s71, al1 s72⟩ | with_reducible exact ⟨set3_cell s50 hne, set3_cell s51 hne, set3_cell s52 hne⟩ | with_reducible exact ⟨set3_cell s70 hne, set3_cell s71 hne, set3_cell s72 hne⟩ | go_keep)
    (first
      | (refine stg (by rfl) _ _ _ (by rfl) et_str _ (.string op) (by rfl) ?_ a1 m c1 (es.map fun x => Value.string x.1) (by rfl) hl0 ?_ (by unfold maxLen; omega) (by omega) ?_; (first | with_reducible exact lit0 | with_reducible exact lit1 | with_reducible exact lit2a | with_reducible exact lit2b | with_reducible exact zSa | with_reducible exact zSb); (first | with_reducible exact HOB.out.up vd1 | with_reducible exact HOB.out.up vd2 | with_reducible exact HOB.out.up HD7.out | with_reducible exact HOB.out.up (bstep HD7.out vd1) | with_reducible exact HOB.out.up (bstep HD7.out vd0)); intro g5 c5 w5 hg5 ho5 hb5; (first | (with_reducible have HD5 := Lib.hid (bstep (bstep HD7.out vd0) hb5)) | (with_reducible have HD5 := Lib.hid (bstep (bstep HD7.out vd1) hb5)) | (with_reducible have HD5 := Lib.hid (bstep HD7.out hb5)) | (with_reducible have HD5 := Lib.hid (bstep (vd2 (w := Wb)) hb5)) | (with_reducible have HD5 := Lib.hid (bstep (vd1 (w := Wb)) hb5))); (try (with_reducible have zIa := cpb hb5 (lit2a (w := Wb) (u := .int .i64 at_)))); (try (with_reducible have zIb := cpb hb5 (lit2b (w := Wb) (u := .int .i64 at_)))); (first | (with_reducible have HL5 : Hid (w7.heap.size ≤ g5) := Lib.hid (by rw [hg5]; first | exact Nat.le_refl _ | (simp; done))) | skip); have hz5 := HD5.out; rw [← HWB.out] at hz5; obtain ⟨⟨q0, q1, q2⟩, f0, f1, f2⟩ := res3 (g := W.heap.size + 1) (by simp) hz5; have s50 := cpb HD5.out x0; have s51 := cpb HD5.out x1; have s52 := cpb HD5.out x2; have HO5 := Lib.hid ho5; have HG5 := Lib.hid hg5; have HB5 := Lib.hid hb5; clear ho5 hg5 hb5 hz5)
      | (refine stg (by rfl) _ _ _ (by rfl) et_int _ (.int .i64 at_) (by rfl) ?_ a2 m c2 (es.map fun x => Value.int .i64 x.2) (by rfl) hl0 ?_ (by unfold maxLen; omega) (by omega) ?_; (first | with_reducible exact lit0 | with_reducible exact lit1 | with_reducible exact lit2a | with_reducible exact lit2b | with_reducible exact zIa | with_reducible exact zIb); (first | with_reducible exact HAB.out.up vd1 | with_reducible exact HAB.out.up vd2 | with_reducible exact HAB.out.up HD5.out | with_reducible exact HAB.out.up (bstep HD5.out vd1) | with_reducible exact HAB.out.up (bstep HD5.out vd0)); intro g7 c7 w7 hg7 ho7 hb7; (first | (with_reducible have HD7 := Lib.hid (bstep (bstep HD5.out vd0) hb7)) | (with_reducible have HD7 := Lib.hid (bstep (bstep HD5.out vd1) hb7)) | (with_reducible have HD7 := Lib.hid (bstep HD5.out hb7)) | (with_reducible have HD7 := Lib.hid (bstep (vd2 (w := Wb)) hb7)) | (with_reducible have HD7 := Lib.hid (bstep (vd1 (w := Wb)) hb7))); (try (with_reducible have zSa := cpb hb7 (lit2a (w := Wb) (u := .string op)))); (try (with_reducible have zSb := cpb hb7 (lit2b (w := Wb) (u := .string op)))); (first | (with_reducible have HL7 : Hid (w5.heap.size ≤ g7) := Lib.hid (by rw [hg7]; first | exact Nat.le_refl _ | (simp; done))) | skip); have hz7 := HD7.out; rw [← HWB.out] at hz7; obtain ⟨⟨q0, q1, q2⟩, f0, f1, f2⟩ := res3 (g := W.heap.size + 1) (by simp) hz7; have s70 := cpb HD7.out x0; have s71 := cpb HD7.out x1; have s72 := cpb HD7.out x2; have HO7 := Lib.hid ho7; have HG7 := Lib.hid hg7; have HB7 := Lib.hid hb7; clear ho7 hg7 hb7 hz7))
  all_goals
    first
    | (obtain ⟨w9, e9, ⟨r0, r1, r2⟩, hb9, hk9, hs9⟩ := res3_set (g := W.heap.size + 1) (u0 := .int .i64 N) (u1 := .slice (some ⟨g5, 0, none⟩) (1 + m) c5) (u2 := .slice (some ⟨g7, 0, none⟩) (1 + m) c7) (by simp) (show Below ((W.alloc (.cells #[.int .i64 N, .slice a1 m c1, .slice a2 m c2] 53)).alloc (.cells #[.int .i64 0, .slice none 0 0, .slice none 0 0] 53)).heap.size ((W.alloc (.cells #[.int .i64 N, .slice a1 m c1, .slice a2 m c2] 53)).alloc (.cells #[.int .i64 0, .slice none 0 0, .slice none 0 0] 53)) w7 by rw [HWB.out]; exact HD7.out)
       rw [e9]
       have hbx : Below w5.heap.size w5 w7 := by first | exact HB7.out | exact bstep vd0 HB7.out | exact bstep vd1 HB7.out
       have r5 := (owns_rd HO5.out).2.up hbx
       have r7 := (owns_rd HO7.out).2
       have l5 : Wb.heap.size ≤ g5 := by rw [HG5.out]; first | exact (vd1 (w := Wb)).size | exact (vd2 (w := Wb)).size
       have l7 : Wb.heap.size ≤ g7 := by rw [HG7.out]; first | exact HD5.out.size | exact (bstep HD5.out vd0).size | exact (bstep HD5.out vd1).size
       have hsz := HSZ.out
       go_wp2
       refine bodyPost_ret (v := .agg #[.int .i64 N, .slice (some ⟨g5, 0, none⟩) (1 + m) c5, .slice (some ⟨g7, 0, none⟩) (1 + m) c7]) (by simp [results, Tryd.results92, go_sem, r0, r1, r2]) rfl ?_
       exact ⟨_, _, _, _, _, _, _, rfl, under_fin HLM.out hl HN.out hk9 hs9 r5 r7 (by omega) (by omega), fr_some (by omega), fr_some (by omega), (by have := HN.out; simpa [bne] using this), (fun h => by cases h), HBX1.out.trans (hb9.mono HBX1.out.size)⟩)
    | (obtain ⟨w9, e9, ⟨r0, r1, r2⟩, hb9, hk9, hs9⟩ := res3_set (g := W.heap.size + 1) (u0 := .int .i64 N) (u1 := .slice (some ⟨g5, 0, none⟩) (1 + m) c5) (u2 := .slice (some ⟨g7, 0, none⟩) (1 + m) c7) (by simp) (show Below ((W.alloc (.cells #[.int .i64 N, .slice a1 m c1, .slice a2 m c2] 53)).alloc (.cells #[.int .i64 0, .slice none 0 0, .slice none 0 0] 53)).heap.size ((W.alloc (.cells #[.int .i64 N, .slice a1 m c1, .slice a2 m c2] 53)).alloc (.cells #[.int .i64 0, .slice none 0 0, .slice none 0 0] 53)) w5 by rw [HWB.out]; exact HD5.out)
       rw [e9]
       have hbx : Below w7.heap.size w7 w5 := by first | exact HB5.out | exact bstep vd0 HB5.out | exact bstep vd1 HB5.out
       have r7 := (owns_rd HO7.out).2.up hbx
       have r5 := (owns_rd HO5.out).2
       have l7 : Wb.heap.size ≤ g7 := by rw [HG7.out]; first | exact (vd1 (w := Wb)).size | exact (vd2 (w := Wb)).size
       have l5 : Wb.heap.size ≤ g5 := by rw [HG5.out]; first | exact HD7.out.size | exact (bstep HD7.out vd0).size | exact (bstep HD7.out vd1).size
       have hsz := HSZ.out
       go_wp2
       refine bodyPost_ret (v := .agg #[.int .i64 N, .slice (some ⟨g5, 0, none⟩) (1 + m) c5, .slice (some ⟨g7, 0, none⟩) (1 + m) c7]) (by simp [results, Tryd.results92, go_sem, r0, r1, r2]) rfl ?_
       exact ⟨_, _, _, _, _, _, _, rfl, under_fin HLM.out hl HN.out hk9 hs9 r5 r7 (by omega) (by omega), fr_some (by omega), fr_some (by omega), (by have := HN.out; simpa [bne] using this), (fun h => by cases h), HBX1.out.trans (hb9.mono HBX1.out.size)⟩)
end Go.Proofs.YteneiianpghalaaDoor
