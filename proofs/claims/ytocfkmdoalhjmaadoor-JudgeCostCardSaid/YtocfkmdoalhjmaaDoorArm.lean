/- Arms for a walk: make, append, over rows that the call owns. Over any program. -/
import Derived.Test.YtocfkmdoalhjmaaDoorMem
import Derived.WalkKit
import Derived.Deep.RegionHeld3
import Derived.Deep.AppendLies
import Derived.Lib.Hide
namespace Go.Proofs.YtocfkmdoalhjmaaDoor
open Go.RowKit

/-- The facts on a slice type t, its element type e: the zero value, the cells and bytes of an element. -/
structure ET (P : Program) (t e : TypeId) (z : Value) (size bytes : Nat) : Prop where
  ht : P.underlying t = some (.slice e)
  hi : ∃ i, P.info? e = some i ∧ i.zero = some z ∧ i.size = size ∧ i.bytes = bytes
  hzs : z.cells.size = size
  hsz : 0 < size

theorem below_of_grown {base : Nat} {w w' : World} {v : Value} {row : Option Nat} (hg : w.grownBy w' row) (hrow : row = v.ownBlock) (hlt : ∀ k, v.ownBlock = some k → base ≤ k ∧ k < w.heap.size) (hb : base ≤ w.heap.size) : Below base w w' := by
  subst hrow
  refine (Below.refl base w).grown hg hb fun k hk => (hlt k hk).1

section
variable {P : Program} {ops : Array Oper} {rest : List Oper} {o : Oper} {a : Act} {Q : Exit → Act → World → Prop}

/-- make([]T, 0, n) -/
theorem mk_cap {w : World} (hg : o.guard = none) (l c : Operand) (t : TypeId) (hop : o.op = Op.makeSlice t l c) (base : Nat) {e : TypeId} {z : Value} {size bytes : Nat} (T : ET P t e z size bytes)
    (kl kc : IntKind) (C : Int) (n : Nat) (hl : a.eval l = .int kl 0) (hc : a.eval c = .int kc C) (hC : C = (n : Int)) (b2 : bytes * n ≤ 281474976710656) (b3 : n ≤ maxLen) (b4 : base ≤ w.heap.size)
    (hK : ∀ w', w'.ownsRow base e size (.slice (some ⟨w.heap.size, 0, none⟩) 0 n) 0 [] → Below w.heap.size w w' → w.heap.size < w'.heap.size → wpList P ops Q rest (a.put o.dst (.slice (some ⟨w.heap.size, 0, none⟩) 0 n)) w') :
    wpList P ops Q (o :: rest) a w := by
  obtain ⟨i, h2, h3, h4, h5⟩ := T.hi
  subst h5
  refine wpList_make_own w hg l c t hop base e i z size T.ht h2 h3 h4 kl kc C n hl hc hC b2 b3 b4 fun w' hown hgrow => hK w' hown ((Below.refl _ _).grown hgrow (Nat.le_refl _) (by simp)) ?_
  exact (hown.lt _ rfl).2

/-- make([]T, n) -/
theorem mk_full {w : World} (hg : o.guard = none) (l c : Operand) (t : TypeId) (hop : o.op = Op.makeSlice t l c) (base : Nat) {e : TypeId} {z : Value} {size bytes : Nat} (T : ET P t e z size bytes)
    (kl kc : IntKind) (L C : Int) (n : Nat) (hl : a.eval l = .int kl L) (hc : a.eval c = .int kc C) (hL : L = (n : Int)) (hC : C = (n : Int)) (b2 : bytes * n ≤ 281474976710656) (b3 : n ≤ maxLen) (b4 : base ≤ w.heap.size)
    (hK : ∀ w', w'.ownsRow base e size (.slice (some ⟨w.heap.size, 0, none⟩) n n) n (madeCells z.cells (n * size)).toList → Below w.heap.size w w' → w.heap.size < w'.heap.size → wpList P ops Q rest (a.put o.dst (.slice (some ⟨w.heap.size, 0, none⟩) n n)) w') :
    wpList P ops Q (o :: rest) a w := by
  obtain ⟨i, h2, h3, h4, h5⟩ := T.hi
  subst h5
  refine wpList_make_full w hg l c t hop base e i z size T.ht h2 h3 h4 kl kc L C n hl hc hL hC b2 b3 b4 fun w' hown hgrow => hK w' hown ((Below.refl _ _).grown hgrow (Nat.le_refl _) (by simp)) ?_
  exact (hown.lt _ rfl).2

/-- append(s, x...): s a row of the call's own, x a slice that reads as the cells news -/
theorem app_rd {w : World} (hg : o.guard = none) (s x : Operand) (t : TypeId) (hop : o.op = .call { callee := .builtin .append, args := #[s, x], argTypes := #[t, t] })
    (base : Nat) {e : TypeId} {z : Value} {size bytes : Nat} (T : ET P t e z size bytes)
    (v : Value) (n : Nat) (xs : List Value) (hown : w.ownsRow base e size v n xs) (hs : a.eval s = v)
    (ad : Option Addr) (m c : Nat) (news : List Value) (hx : a.eval x = .slice ad m c) (hnil : ad = none → c = 0) (hR : Rd w ad m size news) (h1 : ∀ u ∈ news, u.oneCell' = true)
    (b1 : n + m ≤ maxLen) (b2 : (n + m) * bytes ≤ 140737488355328) (b4 : base ≤ w.heap.size)
    (hK : ∀ a' c' w', w'.ownsRow base e size (.slice a' (n + m) c') (n + m) (xs ++ news) → w.grownBy w' v.ownBlock → Below base w w' → wpList P ops Q rest (a.put o.dst (.slice a' (n + m) c')) w') :
    wpList P ops Q (o :: rest) a w := by
  obtain ⟨i, h2, h3, h4, h5⟩ := T.hi
  have fin : ∀ v' w', w'.ownsRow base e size v' (n + m) (xs ++ news) → w.grownBy w' v.ownBlock → wpList P ops Q rest (a.put o.dst v') w' := by
    intro v' w' hown' hgrow
    obtain ⟨a', c', rfl, _, _⟩ := owns_slice hown'
    exact hK _ _ _ hown' hgrow (below_of_grown hgrow rfl hown.lt b4)
  by_cases hm : m = 0
  · subst hm
    have hnews : news = [] := List.eq_nil_of_length_eq_zero (by simpa using hR.1)
    subst hnews
    cases ad with
    | none =>
      have hc0 := hnil rfl
      subst hc0
      refine wpList_plain hg fun K hK' => ?_
      have hrun : (Builtin.append_ #[t, t] o.type #[v, .slice none 0 0]).run P w = .ok v w := by
        rcases hown.2 with ⟨rfl, _⟩ | ⟨g, cap, cur, rfl, _, _, hle, _, _, _⟩
        · simp [Builtin.append_, run_underlying T.ht, sizeOf, typeInfo, h2, Builtin.lenOf, Builtin.firstCells]
        · exact run_append_owned_none (P := P) w base t o.type e i size T.ht h2 _ n xs hown
      unfold Oper.wp
      simp [execOp, hop, resolve, invoke, builtin, hs, hx, hrun, Result.andThen]
      exact hK' _ _ (fin _ _ (by simpa using hown) (World.grownBy.refl _ _))
    | some ad =>
      exact wpList_append_own w hg s x t hop base e i z size bytes T.ht h2 h3 h4 h5 T.hzs T.hsz v n xs hs hown ad 0 c [] hx (by simp) (by simp) (by simp) b1 b2 b4 fun v' w' hown' hgrow _ => fin v' w' hown' hgrow
  · rcases hR.2 with h0 | ⟨b, of, rfl, hlt, hcell⟩
    · exact absurd h0 hm
    · exact wpList_append_own w hg s x t hop base e i z size bytes T.ht h2 h3 h4 h5 T.hzs T.hsz v n xs hs hown ⟨b, of, none⟩ m c news hx hR.1 (fun j u hu => by rw [Addr.add_lit]; exact hcell j u hu) h1 b1 b2 b4 fun v' w' hown' hgrow _ => fin v' w' hown' hgrow

/-- append(s, x1, .., xm): the new elements lie in a block that has just been laid -/
theorem app_lit {w : World} (hg : o.guard = none) (s x : Operand) (t : TypeId) (hop : o.op = .call { callee := .builtin .append, args := #[s, x], argTypes := #[t, t] })
    (base : Nat) {e : TypeId} {z : Value} {size bytes : Nat} (T : ET P t e z size bytes)
    (v : Value) (n : Nat) (xs : List Value) (hown : w.ownsRow base e size v n xs) (hs : a.eval s = v)
    (m g : Nat) (news : Array Value) (hx : a.eval x = .slice (some ⟨g, 0, none⟩) m m) (hgs : g = w.heap.size) (hn : news.size = m * size) (h1 : news.toList.all (fun u => u.oneCell') = true)
    (b1 : n + m ≤ maxLen) (b2 : (n + m) * bytes ≤ 140737488355328) (b4 : base ≤ w.heap.size)
    (hK : ∀ a' c' w', w'.ownsRow base e size (.slice a' (n + m) c') (n + m) (xs ++ news.toList) → w.grownBy w' v.ownBlock → Below base w w' → w.heap.size < w'.heap.size → wpList P ops Q rest (a.put o.dst (.slice a' (n + m) c')) w') :
    wpList P ops Q (o :: rest) a (w.alloc (.cells news e)) := by
  subst hgs
  obtain ⟨i, h2, h3, h4, h5⟩ := T.hi
  refine wpList_append_own (w.alloc (.cells news e)) hg s x t hop base e i z size bytes T.ht h2 h3 h4 h5 T.hzs T.hsz v n xs hs (hown.alloc _) ⟨w.heap.size, 0, none⟩ m m news.toList hx (by simpa using hn) ?_ (List.all_eq_true.1 h1) b1 b2 (by simp; omega) fun v' w' hown' hgrow _ => ?_
  · intro j u hu
    rw [Addr.add_lit]
    simpa using hu
  · obtain ⟨a', c', rfl, _, _⟩ := owns_slice hown'
    have hg2 : w.grownBy w' v.ownBlock := by
      have h0 := World.grownBy_alloc w (.cells news e) v.ownBlock
      exact ⟨hgrow.os.trans h0.os, hgrow.tape.trans h0.tape, hgrow.output.trans h0.output, Nat.le_trans h0.size hgrow.size, fun k hk hne => (hgrow.block k (by simp; omega) hne).trans (h0.block k hk hne)⟩
    refine hK _ _ _ hown' hg2 (below_of_grown hg2 rfl hown.lt b4) ?_
    have := hgrow.size
    simp at this
    omega

/-- append(s, x1, .., xm) as the step of a region that draws its order -/
theorem step_app_lit {w : World} {K : Act → World → Prop} {E : Prop} (hg : o.guard = none) (s x : Operand) (t : TypeId) (hop : o.op = .call { callee := .builtin .append, args := #[s, x], argTypes := #[t, t] })
    (base : Nat) {e : TypeId} {z : Value} {size bytes : Nat} (T : ET P t e z size bytes)
    (v : Value) (n : Nat) (xs : List Value) (hown : w.ownsRow base e size v n xs) (hs : a.eval s = v)
    (m g : Nat) (news : Array Value) (hx : a.eval x = .slice (some ⟨g, 0, none⟩) m m) (hgs : g = w.heap.size) (hn : news.size = m * size) (h1 : news.toList.all (fun u => u.oneCell') = true)
    (b1 : n + m ≤ maxLen) (b2 : (n + m) * bytes ≤ 140737488355328) (b4 : base ≤ w.heap.size)
    (hK : ∀ a' c' w', w'.ownsRow base e size (.slice a' (n + m) c') (n + m) (xs ++ news.toList) → w.grownBy w' v.ownBlock → Below base w w' → w.heap.size < w'.heap.size → K (a.put o.dst (.slice a' (n + m) c')) w') :
    if Region.wanted o (yielded ops a.tmps) = true then Oper.wp P o a (w.alloc (.cells news e)).drew K Q else E := by
  have hw : Region.wanted o (yielded ops a.tmps) = true := by simp [Region.wanted, hg]
  rw [if_pos hw]
  subst hgs
  obtain ⟨i, h2, h3, h4, h5⟩ := T.hi
  refine wp_append_own (w.alloc (.cells news e)).drew s x t hop base e i z size bytes T.ht h2 h3 h4 h5 T.hzs T.hsz v n xs hs (hown.alloc _).drew ⟨w.heap.size, 0, none⟩ m m news.toList hx (by simpa using hn) ?_ (List.all_eq_true.1 h1) b1 b2 (by simp; omega) fun v' w' hown' hgrow _ => ?_
  · intro j u hu
    rw [Addr.add_lit]
    simpa using hu
  · obtain ⟨a', c', rfl, _, _⟩ := owns_slice hown'
    have hg2 : w.grownBy w' v.ownBlock := by
      have h0 := World.grownBy_alloc w (.cells news e) v.ownBlock
      exact ⟨hgrow.os.trans h0.os, hgrow.tape.trans h0.tape, hgrow.output.trans h0.output, Nat.le_trans h0.size hgrow.size, fun k hk hne => (hgrow.block k (by simp; omega) hne).trans (h0.block k hk hne)⟩
    refine hK _ _ _ hown' hg2 (below_of_grown hg2 rfl hown.lt b4) ?_
    have := hgrow.size
    simp at this
    omega
end

theorem results_tmp4 {fn : Func} {t u v x : Tmp} (h : fn.results = #[.tmp t, .tmp u, .tmp v, .tmp x]) (tmps : Array Value) (P : Program) (w : World) :
    (results fn tmps).run P w = .ok (.tuple #[tmps.getD t undef, tmps.getD u undef, tmps.getD v undef, tmps.getD x undef]) w := by
  simp [results, h]

end Go.Proofs.YtocfkmdoalhjmaaDoor
