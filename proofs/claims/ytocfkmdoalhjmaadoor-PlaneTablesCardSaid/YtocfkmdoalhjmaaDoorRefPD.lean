/- Ends of functions that return a patch, or a list, and an error as plain data. -/
import Derived.Test.YtocfkmdoalhjmaaDoorRefPC
namespace Go.Proofs.YtocfkmdoalhjmaaDoor
open Go.RowKit
set_option linter.unusedVariables false
set_option maxRecDepth 100000

theorem setCell_comm {w : World} {g1 g2 i j : Nat} {u v : Value} (h : g1 ≠ g2) : (w.setCell ⟨g1, i, none⟩ u).setCell ⟨g2, j, none⟩ v = (w.setCell ⟨g2, j, none⟩ v).setCell ⟨g1, i, none⟩ u := by
  simp only [World.setCell]
  congr 1
  apply Array.ext_getElem?
  intro k
  simp only [Array.getElem?_modify]
  by_cases h1 : g1 = k <;> by_cases h2 : g2 = k <;> simp [h1, h2]
  exact absurd (h1.trans h2.symm) h
/-- a patch's variable and an error's are set -/
theorem set6p {w : World} {g1 g2 : Nat} {x0 x1 x2 y0 y1 y2 : Value} {t1 t2 : TypeId} {f1 f2 : Nat × Nat} (hne : g1 ≠ g2) (h1 : w.heap[g1]? = some (.cells #[x0, x1, x2] t1 f1)) (h2 : w.heap[g2]? = some (.cells #[y0, y1, y2] t2 f2)) (u0 u1 u2 v0 v1 v2 : Value) :
    ∃ w9, ((((((w.setCell ⟨g1, 0, none⟩ u0).setCell ⟨g1, 1, none⟩ u1).setCell ⟨g1, 2, none⟩ u2).setCell ⟨g2, 0, none⟩ v0).setCell ⟨g2, 1, none⟩ v1).setCell ⟨g2, 2, none⟩ v2) = w9 ∧
      ((((((w.setCell ⟨g2, 0, none⟩ v0).setCell ⟨g2, 1, none⟩ v1).setCell ⟨g2, 2, none⟩ v2).setCell ⟨g1, 0, none⟩ u0).setCell ⟨g1, 1, none⟩ u1).setCell ⟨g1, 2, none⟩ u2) = w9 ∧
      ((w9.cell? ⟨g1, 0, none⟩ = some u0 ∧ w9.cell? ⟨g1, 1, none⟩ = some u1 ∧ w9.cell? ⟨g1, 2, none⟩ = some u2) ∧ (w9.cell? ⟨g2, 0, none⟩ = some v0 ∧ w9.cell? ⟨g2, 1, none⟩ = some v1 ∧ w9.cell? ⟨g2, 2, none⟩ = some v2)) ∧
      (∀ k, k ≠ g1 → k ≠ g2 → w9.heap[k]? = w.heap[k]?) ∧ w9.heap.size = w.heap.size ∧ ∀ (V : World) (B : Nat), B ≤ g1 → B ≤ g2 → Below B V w → Below B V w9 := by
  obtain ⟨wa, ea, ca, ka, sa, ba⟩ := set3p h1 u0 u1 u2
  have h2a : wa.heap[g2]? = some (.cells #[y0, y1, y2] t2 f2) := (ka g2 (fun e => hne e.symm)).trans h2
  obtain ⟨wb, eb, cb, kb, sb, bb⟩ := set3p h2a v0 v1 v2
  refine ⟨wb, by rw [ea, eb], ?_, ⟨⟨?_, ?_, ?_⟩, cb⟩, fun k h1 h2 => (kb k h2).trans (ka k h1), sb.trans sa, fun V B l1 l2 hb => bb V B l2 (ba V B l1 hb)⟩
  · rw [← eb, ← ea]
    have hne2 : g2 ≠ g1 := fun e => hne e.symm
    simp only [setCell_comm (g1 := g2) (g2 := g1) hne2]
  · rw [World.cell?_of_block (w := wa) (kb g1 hne)]; exact ca.1
  · rw [World.cell?_of_block (w := wa) (kb g1 hne)]; exact ca.2.1
  · rw [World.cell?_of_block (w := wa) (kb g1 hne)]; exact ca.2.2
theorem WC.oth2 {w w6 : World} {g1 g2 : Nat} {N : Int} {a1 a2 : Option Addr} {n1 c1 n2 c2 : Nat} {f : ErrD} (h : WC w (.agg #[.int .i64 N, .slice a1 n1 c1, .slice a2 n2 c2]) f) (hk : ∀ k, k ≠ g1 → k ≠ g2 → w6.heap[k]? = w.heap[k]?) (hs : w6.heap.size = w.heap.size) {B : Nat} (l1 : g1 < B) (l2 : g2 < B) (h1 : Fr B a1) (h2 : Fr B a2) :
    WC w6 (.agg #[.int .i64 N, .slice a1 n1 c1, .slice a2 n2 c2]) f := by
  have rd : ∀ {a : Option Addr} {n sz : Nat} {cs : List Value}, Fr B a → Rd w a n sz cs → Rd w6 a n sz cs := by
    intro a n sz cs hf hr
    refine ⟨hr.1, ?_⟩
    rcases hr.2 with h0 | ⟨b, o, rfl, hlt, hc⟩
    · exact .inl h0
    · have := hf b o rfl
      refine .inr ⟨b, o, rfl, by omega, fun j u hu => ?_⟩
      rw [World.cell?_of_block (hk b (by omega) (by omega))]
      exact hc j u hu
  have key : ∀ {n : Int} {es : List (ByteArray × Int)}, ErrVal w (.agg #[.int .i64 N, .slice a1 n1 c1, .slice a2 n2 c2]) n es → ErrVal w6 (.agg #[.int .i64 N, .slice a1 n1 c1, .slice a2 n2 c2]) n es := by
    rintro n es ⟨ao, aa, co, ca, e, hw⟩
    simp only [Value.agg.injEq, Array.mk.injEq, List.cons.injEq, Value.int.injEq, Value.slice.injEq] at e
    obtain ⟨⟨_, rfl⟩, ⟨rfl, rfl, rfl⟩, ⟨rfl, _, rfl⟩, _⟩ := e
    exact ⟨a1, a2, c1, c2, by simp_all, hw.n1, hw.n2, rd h1 hw.ops, rd h2 hw.ats, hw.len⟩
  cases f with
  | none => exact key h
  | some y => exact ⟨key h.1, h.2⟩
/-- a patch and an error as the document has them -/
def PatRef (W : World) (o : Int × Int × List Int) (x : ErrD) (e : Ending) (w' : World) : Prop := ∃ a n c N b1 m1 d1 b2 m2 d2, e = .returned (.tuple #[patV o.1 o.2.1 a n c, .agg #[.int .i64 N, .slice b1 m1 d1, .slice b2 m2 d2]]) ∧ RK .i64 w' a n o.2.2 ∧ WC w' (.agg #[.int .i64 N, .slice b1 m1 d1, .slice b2 m2 d2]) x ∧ (N != 0) = x.isSome ∧ Below W.heap.size W w'
/-- a list and an error as the document has them -/
def IntsRef (W : World) (o : List Int) (x : ErrD) (e : Ending) (w' : World) : Prop := ∃ a n c N b1 m1 d1 b2 m2 d2, e = .returned (.tuple #[.slice a n c, .agg #[.int .i64 N, .slice b1 m1 d1, .slice b2 m2 d2]]) ∧ RK .i64 w' a n o ∧ WC w' (.agg #[.int .i64 N, .slice b1 m1 d1, .slice b2 m2 d2]) x ∧ (N != 0) = x.isSome ∧ Below W.heap.size W w'
theorem PatRef.drew {W w : World} {o : Int × Int × List Int} {x : ErrD} {e : Ending} (h : PatRef W o x e w) : PatRef W o x e w.drew := by
  obtain ⟨a, n, c, N, b1, m1, d1, b2, m2, d2, rfl, h1, h2, h3, hb⟩ := h
  exact ⟨a, n, c, N, b1, m1, d1, b2, m2, d2, rfl, h1.up (Below.drew (bnil w)), h2.up (Below.drew (bnil w)), h3, Below.drew hb⟩
theorem IntsRef.drew {W w : World} {o : List Int} {x : ErrD} {e : Ending} (h : IntsRef W o x e w) : IntsRef W o x e w.drew := by
  obtain ⟨a, n, c, N, b1, m1, d1, b2, m2, d2, rfl, h1, h2, h3, hb⟩ := h
  exact ⟨a, n, c, N, b1, m1, d1, b2, m2, d2, rfl, h1.up (Below.drew (bnil w)), h2.up (Below.drew (bnil w)), h3, Below.drew hb⟩
/-- a refusal's end, the error told by a call -/
theorem pr_err {W w8 : World} {g1 g2 : Nat} {N : Int} {a1 a2 : Option Addr} {n1 c1 n2 c2 : Nat} {x : ErrD} {x0 x1 x2 y0 y1 y2 : Value} (hne : g1 ≠ g2) (h1 : w8.heap[g1]? = some (.cells #[x0, x1, x2] 24)) (h2 : w8.heap[g2]? = some (.cells #[y0, y1, y2] 48)) (l1 : W.heap.size ≤ g1) (l2 : W.heap.size ≤ g2) (hb : Below W.heap.size W w8)
    {B : Nat} (k1 : g1 < B) (k2 : g2 < B) (f1 : Fr B a1) (f2 : Fr B a2) (hw : WC w8 (.agg #[.int .i64 N, .slice a1 n1 c1, .slice a2 n2 c2]) x) (hn : (N != 0) = x.isSome) :
    ∃ w9, ((((((w8.setCell ⟨g1, 0, none⟩ (.int .i64 0)).setCell ⟨g1, 1, none⟩ (.int .i64 0)).setCell ⟨g1, 2, none⟩ (.slice none 0 0)).setCell ⟨g2, 0, none⟩ (.int .i64 N)).setCell ⟨g2, 1, none⟩ (.slice a1 n1 c1)).setCell ⟨g2, 2, none⟩ (.slice a2 n2 c2)) = w9 ∧
      ((((((w8.setCell ⟨g2, 0, none⟩ (.int .i64 N)).setCell ⟨g2, 1, none⟩ (.slice a1 n1 c1)).setCell ⟨g2, 2, none⟩ (.slice a2 n2 c2)).setCell ⟨g1, 0, none⟩ (.int .i64 0)).setCell ⟨g1, 1, none⟩ (.int .i64 0)).setCell ⟨g1, 2, none⟩ (.slice none 0 0)) = w9 ∧
      ((w9.cell? ⟨g1, 0, none⟩ = some (.int .i64 0) ∧ w9.cell? ⟨g1, 1, none⟩ = some (.int .i64 0) ∧ w9.cell? ⟨g1, 2, none⟩ = some (.slice none 0 0)) ∧ (w9.cell? ⟨g2, 0, none⟩ = some (.int .i64 N) ∧ w9.cell? ⟨g2, 1, none⟩ = some (.slice a1 n1 c1) ∧ w9.cell? ⟨g2, 2, none⟩ = some (.slice a2 n2 c2))) ∧
      PatRef W (0, 0, []) x (.returned (.tuple #[patV 0 0 none 0 0, .agg #[.int .i64 N, .slice a1 n1 c1, .slice a2 n2 c2]])) w9 := by
  obtain ⟨w9, e1, e2, hc, hk, hs, hbl⟩ := set6p hne h1 h2 (.int .i64 0) (.int .i64 0) (.slice none 0 0) (.int .i64 N) (.slice a1 n1 c1) (.slice a2 n2 c2)
  exact ⟨w9, e1, e2, hc, none, 0, 0, N, a1, n1, c1, a2, n2, c2, rfl, RK.nil, hw.oth2 hk hs k1 k2 f1 f2, hn, hbl _ _ l1 l2 hb⟩
/-- the end of a call that is not refused -/
theorem pr_ok {W w8 : World} {g1 g2 : Nat} {H K : Int} {a : Option Addr} {n c : Nat} {l : List Int} {x0 x1 x2 y0 y1 y2 : Value} (hne : g1 ≠ g2) (h1 : w8.heap[g1]? = some (.cells #[x0, x1, x2] 24)) (h2 : w8.heap[g2]? = some (.cells #[y0, y1, y2] 48)) (l1 : W.heap.size ≤ g1) (l2 : W.heap.size ≤ g2) (hb : Below W.heap.size W w8)
    {B : Nat} (k1 : g1 < B) (k2 : g2 < B) (ho : OwI w8 B a n c l) :
    ∃ w9, ((((((w8.setCell ⟨g1, 0, none⟩ (.int .i64 H)).setCell ⟨g1, 1, none⟩ (.int .i64 K)).setCell ⟨g1, 2, none⟩ (.slice a n c)).setCell ⟨g2, 0, none⟩ (.int .i64 0)).setCell ⟨g2, 1, none⟩ (.slice none 0 0)).setCell ⟨g2, 2, none⟩ (.slice none 0 0)) = w9 ∧
      ((((((w8.setCell ⟨g2, 0, none⟩ (.int .i64 0)).setCell ⟨g2, 1, none⟩ (.slice none 0 0)).setCell ⟨g2, 2, none⟩ (.slice none 0 0)).setCell ⟨g1, 0, none⟩ (.int .i64 H)).setCell ⟨g1, 1, none⟩ (.int .i64 K)).setCell ⟨g1, 2, none⟩ (.slice a n c)) = w9 ∧
      ((w9.cell? ⟨g1, 0, none⟩ = some (.int .i64 H) ∧ w9.cell? ⟨g1, 1, none⟩ = some (.int .i64 K) ∧ w9.cell? ⟨g1, 2, none⟩ = some (.slice a n c)) ∧ (w9.cell? ⟨g2, 0, none⟩ = some (.int .i64 0) ∧ w9.cell? ⟨g2, 1, none⟩ = some (.slice none 0 0) ∧ w9.cell? ⟨g2, 2, none⟩ = some (.slice none 0 0))) ∧
      PatRef W (H, K, l) none (.returned (.tuple #[patV H K a n c, .agg #[.int .i64 0, .slice none 0 0, .slice none 0 0]])) w9 := by
  obtain ⟨w9, e1, e2, hc, hk, hs, hbl⟩ := set6p hne h1 h2 (.int .i64 H) (.int .i64 K) (.slice a n c) (.int .i64 0) (.slice none 0 0) (.slice none 0 0)
  refine ⟨w9, e1, e2, hc, a, n, c, 0, none, 0, 0, none, 0, 0, rfl, ?_, wc_none w9, rfl, hbl _ _ l1 l2 hb⟩
  exact OwI.rk ⟨own_of_heap' ho.own fun b hb => by have := (ho.own.lt b hb).1; exact hk b (by omega) (by omega)⟩
theorem take_snoc {l : List Int} {k : Nat} (h : k < l.length) : (l.take k).map (Value.int .i64) ++ (#[Value.int .i64 (l.getD k 0)] : Array Value).toList = (l.take (k + 1)).map (Value.int .i64) := by
  rw [List.take_succ_eq_append_getElem h, List.map_append, show l.getD k 0 = l[k] by simp [h]]
  rfl
theorem set2q {w : World} {g : Nat} {x0 x1 x2 : Value} {t : TypeId} {fr : Nat × Nat} (h : w.heap[g]? = some (.cells #[x0, x1, x2] t fr)) (u : Value) : (w.setCell ⟨g, 2, none⟩ u).heap[g]? = some (.cells #[x0, x1, u] t fr) := by
  simp [World.setCell, Array.getElem?_modify, h]
theorem withinB_t2 {x n m : Int} (h : ¬ withinB x n m = false) : 0 ≤ x ∧ 1 ≤ n ∧ n ≤ m ∧ x ≤ m - n := by
  have h2 : withinB x n m = true := by simpa using h
  exact of_decide_eq_true h2
theorem refBadE (n : Int) (x y : Value) (W : World) (b : Bool) (h : (n != 0) = b) : Calls Tryd.prog 46 #[.agg #[.int .i64 n, x, y]] W fun e w' => e = .returned (.bool b) ∧ Below W.heap.size W w' := by
  subst h
  go_enter Tryd.func46, Tryd.ntmps46
  go_wp2
  go_ret
  exact ⟨rfl, balloc (bnil W) _⟩
theorem refpcheck_ok (w h : Nat) (a : Option Addr) (n c : Nat) (l : List Int) (W : World) (hR : RK .i64 W a n l) (hm : n ≤ maxLen) (hp : IsPatch w h l) :
    Calls Tryd.prog 45 #[patV w h a n c] W fun e w' => e = .returned (.agg #[.int .i64 0, .slice none 0 0, .slice none 0 0]) ∧ Below W.heap.size W w' := by
  refine (refpcheck_any w h a n c l W hR hm).mono ?_
  rintro e w' ⟨N, a1, n1, c1, a2, n2, c2, rfl, _, _, _, _, hz, hb⟩
  obtain ⟨rfl, rfl, rfl, rfl, rfl, rfl, rfl⟩ := hz (by unfold patchD; rw [patchErr_of hp]; rfl)
  exact ⟨rfl, hb⟩
theorem refpcheck_er (w h : Int) (a : Option Addr) (n c : Nat) (l : List Int) (W : World) (hR : RK .i64 W a n l) (hm : n ≤ maxLen) (hp : patchErr w h l ≠ none) :
    Calls Tryd.prog 45 #[patV w h a n c] W fun e w' => ∃ N a1 n1 c1 a2 n2 c2, e = .returned (.agg #[.int .i64 N, .slice a1 n1 c1, .slice a2 n2 c2]) ∧ WC w' (.agg #[.int .i64 N, .slice a1 n1 c1, .slice a2 n2 c2]) (patchD w h l) ∧ Fr W.heap.size a1 ∧ Fr W.heap.size a2 ∧ (N != 0) = true ∧ Below W.heap.size W w' := by
  refine (refpcheck_any w h a n c l W hR hm).mono ?_
  rintro e w' ⟨N, a1, n1, c1, a2, n2, c2, rfl, hw, f1, f2, hn, _, hb⟩
  refine ⟨N, a1, n1, c1, a2, n2, c2, rfl, hw, f1, f2, ?_, hb⟩
  rw [hn]
  unfold patchD
  cases he : patchErr w h l with
  | none => exact absurd he hp
  | some y => rfl

/-- the result's error is set -/
theorem er_set {W w8 : World} {B : Nat} {N : Int} {a1 a2 : Option Addr} {n1 c1 n2 c2 : Nat} {x : ErrD} {x0 x1 x2 : Value} (hB : W.heap.size ≤ B) (hz : w8.heap[B]? = some (.cells #[x0, x1, x2] 48)) (hb : Below W.heap.size W w8) (f1 : Fr (B + 1) a1) (f2 : Fr (B + 1) a2)
    (hw : WC w8 (.agg #[.int .i64 N, .slice a1 n1 c1, .slice a2 n2 c2]) x) :
    ∃ w9, (((w8.setCell ⟨B, 0, none⟩ (.int .i64 N)).setCell ⟨B, 1, none⟩ (.slice a1 n1 c1)).setCell ⟨B, 2, none⟩ (.slice a2 n2 c2)) = w9 ∧
      (w9.cell? ⟨B, 0, none⟩ = some (.int .i64 N) ∧ w9.cell? ⟨B, 1, none⟩ = some (.slice a1 n1 c1) ∧ w9.cell? ⟨B, 2, none⟩ = some (.slice a2 n2 c2)) ∧
      (∀ k, k ≠ B → w9.heap[k]? = w8.heap[k]?) ∧ w9.heap.size = w8.heap.size ∧ WC w9 (.agg #[.int .i64 N, .slice a1 n1 c1, .slice a2 n2 c2]) x ∧ Below W.heap.size W w9 := by
  obtain ⟨w9, e9, hc, hk, hs, hbl⟩ := set3p hz (.int .i64 N) (.slice a1 n1 c1) (.slice a2 n2 c2)
  exact ⟨w9, e9, hc, hk, hs, hw.other hk hs f1 f2, hbl W W.heap.size hB hb⟩
end Go.Proofs.YtocfkmdoalhjmaaDoor
