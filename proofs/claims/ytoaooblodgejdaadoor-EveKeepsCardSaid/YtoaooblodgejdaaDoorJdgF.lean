/- edenlaw24.full. -/
import Derived.Test.YtoaooblodgejdaaDoorJdgX
import Derived.Test.YtoaooblodgejdaaDoorCrtX
import Derived.Lib.SlBytesConst
import Derived.Test.YtoaooblodgejdaaDoorErrH
namespace Go.Proofs.YtoaooblodgejdaaDoor
open Go.RowKit
set_option linter.unusedVariables false
set_option maxRecDepth 100000

section
variable {P : Program} {ops : Array Oper} {rest : List Oper} {o : Oper} {a : Act} {Q : Exit → Act → World → Prop}
/-- append onto a literal that is full: a new row -/
theorem appgN {w : World} (hg : o.guard = none) (s x : Operand) (t : TypeId) (hop : o.op = .call { callee := .builtin .append, args := #[s, x], argTypes := #[t, t] })
    {e : TypeId} {z : Value} {bytes : Nat} (T : ET P t e z 1 bytes) (g q : Nat) (us : List Value) (hq : us.length = q) (hs : a.eval s = .slice (some ⟨g, 0, none⟩) q q) (hu : ∀ j v, us[j]? = some v → w.cell? ⟨g, j, none⟩ = some v)
    (ad : Option Addr) (m c : Nat) (news : List Value) (hx : a.eval x = .slice ad m c) (hm : 0 < m) (hR : Rd w ad m 1 news) (b1 : q + m ≤ maxLen) (b2 : (q + m) * bytes ≤ 140737488355328)
    (hK : ∀ g' c' w', g' = w.heap.size → w'.ownsRow w.heap.size e 1 (.slice (some ⟨g', 0, none⟩) (q + m) c') (q + m) (us ++ news) → Below w.heap.size w w' → wpList P ops Q rest (a.put o.dst (.slice (some ⟨g', 0, none⟩) (q + m) c')) w') :
    wpList P ops Q (o :: rest) a w := by
  refine wpList_plain hg fun K hK' => ?_
  obtain ⟨i, hi, hz, h4, h5⟩ := T.hi
  have hzs := T.hzs
  subst h5
  obtain ⟨b, of, rfl, hlt, hc⟩ : ∃ b o, ad = some ⟨b, o, none⟩ ∧ b < w.heap.size ∧ ∀ j v, news[j]? = some v → w.cell? ⟨b, o + j, none⟩ = some v := by
    rcases hR.2 with h0 | h
    · omega
    · exact h
  have hl : news.length = m * i.size := by rw [h4]; exact hR.1
  have hrun := run_append_grow (P := P) (w := w) t o.type e i z T.ht hi hz ⟨g, 0, none⟩ q q us (by rw [h4, hq]; omega) (fun j v hv => by rw [Addr.add_lit]; simpa using hu j v hv) ⟨b, of, none⟩ m c news hl (fun j v hv => by rw [Addr.add_lit]; exact hc j v hv) (by omega) (by unfold maxLen at b1; omega) (growslice_fits (by omega) b2)
  have hge := grownCap_ge w (q + m) q e
  have hcm : grownCap w (q + m) q e ≤ maxLen := grownCap_le_maxLen w (q + m) q e b1
  have hbel : Below w.heap.size w (w.drew.alloc (.cells (us.toArray ++ news.toArray ++ Builtin.zeroCells z.cells (grownCap w (q + m) q e - (q + m))) e)) := (Below.drew (bnil w)).alloc (Nat.le_refl _) _
  have hn1 : news.length = m := by rw [hl, h4, Nat.mul_one]
  have hown : (w.drew.alloc (.cells (us.toArray ++ news.toArray ++ Builtin.zeroCells z.cells (grownCap w (q + m) q e - (q + m))) e)).ownsRow w.heap.size e 1 (.slice (some ⟨w.heap.size, 0, none⟩) (q + m) (grownCap w (q + m) q e)) (q + m) (us ++ news) := by
    refine ⟨by simp; omega, .inr ⟨w.heap.size, _, _, rfl, Nat.le_refl _, heap_alloc_new w.drew _, hge, hcm, ?_, ?_⟩⟩
    · simp only [Array.size_append, List.size_toArray, size_zeroCells, hzs, hn1, hq]
      omega
    · simp only [Array.toList_append, List.append_assoc]
      rw [← List.append_assoc]
      rw [show (q + m) * 1 = (us ++ news).length by simp; omega]
      exact List.take_left
  unfold Oper.wp
  simp [execOp, hop, resolve, invoke, builtin, hs, hx, Result.andThen]
  rw [hrun]
  exact hK' _ _ (hK _ _ _ rfl hown hbel)
end
theorem lit_rdJ {w : World} {cs : Array Value} {e : TypeId} : Rd (w.alloc (.cells cs e)) (some ⟨w.heap.size, 0, none⟩) cs.size 1 cs.toList := rd_new rfl (by simp)
/-- the entries of one column, all of them -/
def L64 : List (Int × Int × Int) := (List.range 64).map fun i => (0, ((i / 8 : Nat) : Int), ((i % 8 : Nat) : Int))
theorem L64_len : L64.length = 64 := rfl
theorem L64_at {n : Nat} (hn : n < 64) : L64.take (n + 1) = L64.take n ++ [((0 : Int), ((n / 8 : Nat) : Int), ((n % 8 : Nat) : Int))] := by
  have hl : n < L64.length := hn
  rw [List.take_succ_eq_append_getElem hl]
  simp [L64]
theorem encL_snoc (w h : Int) (l : List (Int × Int × Int)) (x : Int × Int × Int) : encL w h (l ++ [x]) = encL w h l ++ [x.1, x.2.1, x.2.2] := by simp [encL, flat3]
def FullPost (W : World) (e : Ending) (w' : World) : Prop := ∃ a c, e = .returned (.slice a 196 c) ∧ RK .u8 w' a 196 (encL 1 1 L64) ∧ Below W.heap.size W w'
set_option maxHeartbeats 16000000 in
theorem full_any (W : World) : Calls Tryd.prog 96 #[] W (FullPost W) := by
  have kc := fun (w : World) (C : Array Value) (n c : Nat) => Lib.run_convert_bytes_const (P := Tryd.prog) w 26 5 C n c Tryd.underlying26 Tryd.underlying5
  go_enter Tryd.func96, Tryd.ntmps96
  go_wp2_with fail
  clear kc
  go_loopw [1, 2] (fun bx ix wr => ∃ n : Nat, n ≤ 64 ∧ ix = .int .i64 (n : Nat) ∧ ((n = 0 ∧ bx = .slice (some ⟨W.heap.size, 0, none⟩) 4 4 ∧ ∀ j v, ((encL 1 1 []).map (Value.int .u8))[j]? = some v → wr.cell? ⟨W.heap.size, j, none⟩ = some v) ∨ (∃ a c, bx = .slice a (4 + 3 * n) c ∧ wr.ownsRow W.heap.size 5 1 (.slice a (4 + 3 * n) c) (4 + 3 * n) ((encL 1 1 (L64.take n)).map (Value.int .u8)))) ∧ Below W.heap.size W wr) (fun _ ix _ => 64 - (intOf ix).toNat)
  case atStart => exact ⟨0, by omega, rfl, .inl ⟨rfl, rfl, fun j v h => by
      rw [World.cell?_alloc_mark]
      first | exact h | (simp only [List.getElem?_toArray]; exact h)⟩, balloc (bnil W) _⟩
  case round =>
    obtain ⟨n, hn, rfl, ho, hb⟩ := hrel
    generalize wr = wo at *
    have HO := Lib.hid ho
    have HB := Lib.hid hb
    have hsz := hb.size
    clear ho hb
    by_cases hn64 : n < 64
    · have hla : (encL 1 1 (L64.take (n + 1))).map (Value.int .u8) = (encL 1 1 (L64.take n)).map (Value.int .u8) ++ [Value.int .u8 0, Value.int .u8 ((n : Int) / 8), Value.int .u8 ((n : Int) % 8)] := by
        rw [L64_at hn64, encL_snoc, List.map_append]
        rfl
      have HLA := Lib.hid hla
      clear hla
      rcases HO.out with ⟨h0, rfl, hcl⟩ | ⟨a, c, rfl, hown⟩
      · subst h0
        have HCL : Hid (∀ (ob : Obj) j v, ((encL 1 1 []).map (Value.int .u8))[j]? = some v → (wo.alloc ob).cell? ⟨W.heap.size, j, none⟩ = some v) := fun ob j v h => al000 (hcl j v h)
        clear hcl
        go_wp2_with (first
          | (at_builtin; refine appgN rfl _ _ _ rfl et_u8 W.heap.size 4 ((encL 1 1 []).map (Value.int .u8)) rfl rfl (HCL.out _) _ 3 3 _ rfl (by omega) lit_rdJ (by unfold maxLen; omega) (by omega) ?_; intro g6 c6 w6 hg6 ho6 hb6; clear hg6))
        have hbq : Below wo.heap.size wo w6 := bstep (balloc (bnil wo) _) hb6
        have HO6 : Hid (w6.ownsRow W.heap.size 5 1 (.slice (some ⟨g6, 0, none⟩) (4 + 3 * (0 + 1)) c6) (4 + 3 * (0 + 1)) ((encL 1 1 (L64.take (0 + 1))).map (Value.int .u8))) := by
          show World.ownsRow _ _ _ _ _ _ _
          rw [HLA.out]
          exact owns_base ho6 (by simp; omega)
        clear ho6 hb6
        go_roundw
        case rel => exact ⟨1, by omega, by go_num, .inr ⟨_, _, rfl, HO6.out⟩, HB.out.trans (hbq.mono hsz)⟩
        case measure => simp [intOf]
      · have HOW := Lib.hid hown
        clear hown HO
        go_wp2_with (first
          | (at_builtin; refine app_lit rfl _ _ _ rfl W.heap.size et_u8 _ (4 + 3 * n) _ HOW.out rfl 3 _ _ rfl (by simp) rfl rfl (by unfold maxLen; omega) (by omega) (by omega) ?_; intro a3 c3 w3 hown3 hgr3 hb3 hsz3))
        have HO6 : Hid (w3.ownsRow W.heap.size 5 1 (.slice a3 (4 + 3 * (n + 1)) c3) (4 + 3 * (n + 1)) ((encL 1 1 (L64.take (n + 1))).map (Value.int .u8))) := by
          show World.ownsRow _ _ _ _ _ _ _
          rw [HLA.out]
          exact hown3
        clear hown3
        go_roundw
        case rel => exact ⟨n + 1, by omega, by go_num, .inr ⟨_, _, rfl, HO6.out⟩, HB.out.trans hb3⟩
        case measure => simp [intOf]; omega
    · obtain rfl : n = 64 := by omega
      rcases HO.out with ⟨h0, rfl, hcl⟩ | ⟨a, c, rfl, hown⟩
      · omega
      · have HOW := Lib.hid hown
        clear hown HO
        go_wp2
        go_ret
        refine ⟨_, _, rfl, ⟨rfl, (owns_rd HOW.out).2⟩, HB.out⟩
end Go.Proofs.YtoaooblodgejdaaDoor
