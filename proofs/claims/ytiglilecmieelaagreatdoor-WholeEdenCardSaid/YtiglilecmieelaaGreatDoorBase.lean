/- Small lemmas on memory: slices that read as lists, rows that a call owns. Arms for a walk: make, append, over rows that the call owns. Over any program. The facts on the slice types of this program. append onto a row of the call's own: what becomes of the memory. Rows of the call's own: stores, values apart, appends; slices that read as fronts. copy into a row of the call's own. Over any program. The contracts of package fault: root, New. -/
import Derived.WalkKit
import Derived.Laws.BytesArg
import Derived.Laws.StructEq
import Derived.Deep.Draws
import Derived.Lib.Hide
import Derived.Deep.RegionHeld3
import Derived.Deep.AppendLies
import Derived.Test.YtiglilecmieelaaGreatDoorProg
import Derived.KernelRfl
import Derived.Laws.CopyOwn
namespace Go.Proofs.YtiglilecmieelaaGreatDoor
open Go.RowKit

/-- A slice (its address, its length) reads as the cells cs, sz cells an element. -/
def Rd (w : World) (a : Option Addr) (n sz : Nat) (cs : List Value) : Prop :=
  cs.length = n * sz ∧ (n = 0 ∨ ∃ b o, a = some ⟨b, o, none⟩ ∧ b < w.heap.size ∧ ∀ j u, cs[j]? = some u → w.cell? ⟨b, o + j, none⟩ = some u)

theorem Rd.below {B : Nat} {w w' : World} {a : Option Addr} {n sz : Nat} {cs : List Value} (h : Rd w a n sz cs) (hb : Below B w w') (hB : w.heap.size ≤ B) : Rd w' a n sz cs := by
  refine ⟨h.1, ?_⟩
  rcases h.2 with h0 | ⟨b, o, ha, hlt, hc⟩
  · exact .inl h0
  · refine .inr ⟨b, o, ha, Nat.lt_of_lt_of_le hlt hb.size, fun j u hu => ?_⟩
    have := hb.cell (p := ⟨b, o + j, none⟩) (Nat.lt_of_lt_of_le hlt hB)
    rw [this]; exact hc j u hu

theorem below_drewN {B : Nat} {a w : World} (h : Below B a w) (n : Nat) : Below B a (w.drewN n) := h.trans ⟨rfl, rfl, rfl, Nat.le_refl _, fun _ _ => rfl⟩

theorem bstep {a b c : World} (h : Below a.heap.size a b) (k : Below b.heap.size b c) : Below a.heap.size a c := h.trans (k.mono h.size)
theorem balloc {a b : World} (h : Below a.heap.size a b) (o : Obj) : Below a.heap.size a (b.alloc o) := h.alloc h.size o
theorem bdrewN {a b : World} (h : Below a.heap.size a b) (n : Nat) : Below a.heap.size a (b.drewN n) := below_drewN h n
theorem bnil (a : World) : Below a.heap.size a a := Below.refl _ _
/-- what is there stays, over the worlds behind -/
theorem Rd.up {w w' : World} {a : Option Addr} {n sz : Nat} {cs : List Value} (h : Rd w a n sz cs) (hb : Below w.heap.size w w') : Rd w' a n sz cs := h.below hb (Nat.le_refl _)
theorem Rd.al {w : World} {a : Option Addr} {n sz : Nat} {cs : List Value} (h : Rd w a n sz cs) (o : Obj) : Rd (w.alloc o) a n sz cs := h.up (balloc (bnil _) o)

theorem owns_slice {w : World} {base sz n : Nat} {e : TypeId} {v : Value} {cs : List Value} (h : w.ownsRow base e sz v n cs) : ∃ a c, v = .slice a n c ∧ n ≤ c ∧ c ≤ maxLen := by
  rcases h.2 with ⟨rfl, rfl⟩ | ⟨g, cap, cur, rfl, _, _, h1, h2, _⟩
  · exact ⟨none, 0, rfl, Nat.le_refl _, Nat.zero_le _⟩
  · exact ⟨_, _, rfl, h1, h2⟩

theorem owns_rd {w : World} {base sz n m : Nat} {e : TypeId} {a : Option Addr} {c : Nat} {cs : List Value} (h : w.ownsRow base e sz (.slice a m c) n cs) : m = n ∧ Rd w a n sz cs := by
  rcases h.2 with ⟨h1, h2⟩ | ⟨g, cap, cur, h1, h2, h3, h4, h5, h6, h7⟩
  · cases h1; subst h2; exact ⟨rfl, h.1, .inl rfl⟩
  · cases h1
    refine ⟨rfl, h.1, .inr ⟨g, 0, rfl, (Array.getElem?_eq_some_iff.1 h3).1, fun j u hu => ?_⟩⟩
    have := h.cells (g := g) rfl j u hu
    simpa [Addr.add] using (by unfold Addr.add at this; split at this <;> simp_all : w.cell? ⟨g, 0 + j, none⟩ = some u)

/-- What a row that is owned from 'base' on owes to the worlds behind it, where nothing below 'lim' is written: it stays. -/
theorem owns_below {w w' : World} {base B sz n : Nat} {e : TypeId} {v : Value} {cs : List Value} (h : w.ownsRow base e sz v n cs) (hb : Below B w w') (hB : w.heap.size ≤ B) : w'.ownsRow base e sz v n cs := by
  refine ⟨h.1, ?_⟩
  rcases h.2 with hn | ⟨g, cap, cur, rfl, hbg, hg, rest⟩
  · exact .inl hn
  · have hlt := (Array.getElem?_eq_some_iff.1 hg).1
    exact .inr ⟨g, cap, cur, rfl, hbg, by rw [hb.block g (by omega)]; exact hg, rest⟩
theorem owns_up {w w' : World} {base sz n : Nat} {e : TypeId} {v : Value} {cs : List Value} (h : w.ownsRow base e sz v n cs) (hb : Below w.heap.size w w') : w'.ownsRow base e sz v n cs := owns_below h hb (Nat.le_refl _)
theorem owns_base {w : World} {base b' sz n : Nat} {e : TypeId} {v : Value} {cs : List Value} (h : w.ownsRow base e sz v n cs) (hb : b' ≤ base) : w.ownsRow b' e sz v n cs := by
  refine ⟨h.1, ?_⟩
  rcases h.2 with hn | ⟨g, cap, cur, rfl, hbg, rest⟩
  · exact .inl hn
  · exact .inr ⟨g, cap, cur, rfl, Nat.le_trans hb hbg, rest⟩

/-- a slice over a block that has just been laid -/
theorem rd_new {w : World} {g m sz : Nat} {news : Array Value} {e : TypeId} {fr : Nat × Nat} (hg : g = w.heap.size) (hn : news.size = m * sz) : Rd (w.alloc (.cells news e fr)) (some ⟨g, 0, none⟩) m sz news.toList := by
  subst hg
  refine ⟨by simpa using hn, .inr ⟨w.heap.size, 0, rfl, by simp, fun j u hu => ?_⟩⟩
  have hh : (w.alloc (.cells news e fr)).heap[w.heap.size]? = some (.cells news e fr) := heap_alloc_new w _
  simp only [World.cell?, hh, Nat.zero_add]
  simpa using hu

/-- string(bytes) -/
theorem conv_str {P : Program} {w : World} {src dst e : TypeId} (hs : P.underlying src = some (.slice e)) (he : P.underlying e = some (.int .u8)) (hd : P.underlying dst = some .string)
    {a : Option Addr} {n c : Nat} {xs : List Int} (hR : Rd w a n 1 (xs.map (Value.int .u8))) : (convert src dst (.slice a n c)).run P w = .ok (.string (strOfNums xs)) w := by
  have hl : xs.length = n := by simpa using hR.1
  rcases hR.2 with h0 | ⟨b, o, rfl, _, hc⟩
  · subst h0
    have hx : xs = [] := List.eq_nil_of_length_eq_zero hl
    subst hx
    cases a with
    | none => rw [run_convert_bytes_nil w src e hs he _ _ dst hd]; rfl
    | some ad =>
      obtain ⟨b, o, sp⟩ := ad
      rw [run_convert_bytes_string w src dst e _ _ c hs he hd]
      rw [run_bytesToString (P := P) w _ 0 c [] (by simp [loadCells, loadCellsFrom])]
      rfl
  · exact run_convert_bytes_arg w src e hs he b o n c xs hl (fun i hi => hc i _ (by simp [hl ▸ hi])) dst hd

theorem strOfNums_eq {xs ys : List Int} (hx : ∀ x ∈ xs, 0 ≤ x ∧ x ≤ 255) (hy : ∀ y ∈ ys, 0 ≤ y ∧ y ≤ 255) : ((strOfNums xs).toList == (strOfNums ys).toList) = decide (xs = ys) := by
  rw [Bool.eq_iff_iff, beq_iff_eq, decide_eq_true_eq, ByteArray.toList_eq, ByteArray.toList_eq]
  constructor
  · intro h
    rw [strOfNums_data, strOfNums_data] at h
    have h2 := congrArg (List.map fun c : UInt8 => (c.toNat : Int)) h
    rw [List.map_map, List.map_map] at h2
    have key : ∀ l : List Int, (∀ x ∈ l, 0 ≤ x ∧ x ≤ 255) → l.map ((fun c : UInt8 => (c.toNat : Int)) ∘ fun n : Int => UInt8.ofNat n.toNat) = l := by
      intro l hl
      refine (List.map_congr_left fun x hxm => ?_).trans (List.map_id l)
      have := hl x hxm
      simp only [Function.comp, UInt8.toNat_ofNat', id]
      omega
    rw [key xs hx, key ys hy] at h2
    exact h2
  · intro h; subst h; rfl
end Go.Proofs.YtiglilecmieelaaGreatDoor
namespace Go.Proofs.YtiglilecmieelaaGreatDoor
open Go.RowKit

/-- The facts on a slice type t, its element type e: the zero value, the cells and bytes of an element. -/
structure ET (P : Program) (t e : TypeId) (z : Value) (size bytes : Nat) : Prop where
  ht : P.underlying t = some (.slice e)
  hi : ∃ i, P.info? e = some i ∧ i.zero = some z ∧ i.size = size ∧ i.bytes = bytes
  hzs : z.cells.size = size
  hsz : 0 < size

theorem below_of_grown {base : Nat} {w w' : World} {v : Value} {row : Option Nat} (hg : w.grownBy w' row) (hrow : row = v.ownBlock) (hlt : ∀ k, v.ownBlock = some k → base ≤ k ∧ k < w.heap.size) (hb : base ≤ w.heap.size) : Below base w w' := by
  subst hrow
  refine (Below.refl base w).grown hg hb fun k hk => (hlt k hk).1

section
variable {P : Program} {ops : Array Oper} {rest : List Oper} {o : Oper} {a : Act} {Q : Exit → Act → World → Prop}

/-- make([]T, 0, n) -/
theorem mk_cap {w : World} (hg : o.guard = none) (l c : Operand) (t : TypeId) (hop : o.op = Op.makeSlice t l c) (base : Nat) {e : TypeId} {z : Value} {size bytes : Nat} (T : ET P t e z size bytes)
    (kl kc : IntKind) (C : Int) (n : Nat) (hl : a.eval l = .int kl 0) (hc : a.eval c = .int kc C) (hC : C = (n : Int)) (b2 : bytes * n ≤ 281474976710656) (b3 : n ≤ maxLen) (b4 : base ≤ w.heap.size)
    (hK : ∀ w', w'.ownsRow base e size (.slice (some ⟨w.heap.size, 0, none⟩) 0 n) 0 [] → Below w.heap.size w w' → w.heap.size < w'.heap.size → wpList P ops Q rest (a.put o.dst (.slice (some ⟨w.heap.size, 0, none⟩) 0 n)) w') :
    wpList P ops Q (o :: rest) a w := by
  obtain ⟨i, h2, h3, h4, h5⟩ := T.hi
  subst h5
  refine wpList_make_own w hg l c t hop base e i z size T.ht h2 h3 h4 kl kc C n hl hc hC b2 b3 b4 fun w' hown hgrow => hK w' hown ((Below.refl _ _).grown hgrow (Nat.le_refl _) (by simp)) ?_
  exact (hown.lt _ rfl).2

/-- make([]T, n) -/
theorem mk_full {w : World} (hg : o.guard = none) (l c : Operand) (t : TypeId) (hop : o.op = Op.makeSlice t l c) (base : Nat) {e : TypeId} {z : Value} {size bytes : Nat} (T : ET P t e z size bytes)
    (kl kc : IntKind) (L C : Int) (n : Nat) (hl : a.eval l = .int kl L) (hc : a.eval c = .int kc C) (hL : L = (n : Int)) (hC : C = (n : Int)) (b2 : bytes * n ≤ 281474976710656) (b3 : n ≤ maxLen) (b4 : base ≤ w.heap.size)
    (hK : ∀ w', w'.ownsRow base e size (.slice (some ⟨w.heap.size, 0, none⟩) n n) n (madeCells z.cells (n * size)).toList → Below w.heap.size w w' → w.heap.size < w'.heap.size → wpList P ops Q rest (a.put o.dst (.slice (some ⟨w.heap.size, 0, none⟩) n n)) w') :
    wpList P ops Q (o :: rest) a w := by
  obtain ⟨i, h2, h3, h4, h5⟩ := T.hi
  subst h5
  refine wpList_make_full w hg l c t hop base e i z size T.ht h2 h3 h4 kl kc L C n hl hc hL hC b2 b3 b4 fun w' hown hgrow => hK w' hown ((Below.refl _ _).grown hgrow (Nat.le_refl _) (by simp)) ?_
  exact (hown.lt _ rfl).2

/-- append(s, x...): s a row of the call's own, x a slice that reads as the cells news -/
theorem app_rd {w : World} (hg : o.guard = none) (s x : Operand) (t : TypeId) (hop : o.op = .call { callee := .builtin .append, args := #[s, x], argTypes := #[t, t] })
    (base : Nat) {e : TypeId} {z : Value} {size bytes : Nat} (T : ET P t e z size bytes)
    (v : Value) (n : Nat) (xs : List Value) (hown : w.ownsRow base e size v n xs) (hs : a.eval s = v)
    (ad : Option Addr) (m c : Nat) (news : List Value) (hx : a.eval x = .slice ad m c) (hnil : ad = none → c = 0) (hR : Rd w ad m size news) (h1 : ∀ u ∈ news, u.oneCell' = true)
    (b1 : n + m ≤ maxLen) (b2 : (n + m) * bytes ≤ 140737488355328) (b4 : base ≤ w.heap.size)
    (hK : ∀ a' c' w', w'.ownsRow base e size (.slice a' (n + m) c') (n + m) (xs ++ news) → w.grownBy w' v.ownBlock → Below base w w' → wpList P ops Q rest (a.put o.dst (.slice a' (n + m) c')) w') :
    wpList P ops Q (o :: rest) a w := by
  obtain ⟨i, h2, h3, h4, h5⟩ := T.hi
  have fin : ∀ v' w', w'.ownsRow base e size v' (n + m) (xs ++ news) → w.grownBy w' v.ownBlock → wpList P ops Q rest (a.put o.dst v') w' := by
    intro v' w' hown' hgrow
    obtain ⟨a', c', rfl, _, _⟩ := owns_slice hown'
    exact hK _ _ _ hown' hgrow (below_of_grown hgrow rfl hown.lt b4)
  by_cases hm : m = 0
  · subst hm
    have hnews : news = [] := List.eq_nil_of_length_eq_zero (by simpa using hR.1)
    subst hnews
    cases ad with
    | none =>
      have hc0 := hnil rfl
      subst hc0
      refine wpList_plain hg fun K hK' => ?_
      have hrun : (Builtin.append_ #[t, t] o.type #[v, .slice none 0 0]).run P w = .ok v w := by
        rcases hown.2 with ⟨rfl, _⟩ | ⟨g, cap, cur, rfl, _, _, hle, _, _, _⟩
        · simp [Builtin.append_, run_underlying T.ht, sizeOf, typeInfo, h2, Builtin.lenOf, Builtin.firstCells]
        · exact run_append_owned_none (P := P) w base t o.type e i size T.ht h2 _ n xs hown
      unfold Oper.wp
      simp [execOp, hop, resolve, invoke, builtin, hs, hx, hrun, Result.andThen]
      exact hK' _ _ (fin _ _ (by simpa using hown) (World.grownBy.refl _ _))
    | some ad =>
      exact wpList_append_own w hg s x t hop base e i z size bytes T.ht h2 h3 h4 h5 T.hzs T.hsz v n xs hs hown ad 0 c [] hx (by simp) (by simp) (by simp) b1 b2 b4 fun v' w' hown' hgrow _ => fin v' w' hown' hgrow
  · rcases hR.2 with h0 | ⟨b, of, rfl, hlt, hcell⟩
    · exact absurd h0 hm
    · exact wpList_append_own w hg s x t hop base e i z size bytes T.ht h2 h3 h4 h5 T.hzs T.hsz v n xs hs hown ⟨b, of, none⟩ m c news hx hR.1 (fun j u hu => by rw [Addr.add_lit]; exact hcell j u hu) h1 b1 b2 b4 fun v' w' hown' hgrow _ => fin v' w' hown' hgrow

/-- append(s, x1, .., xm): the new elements lie in a block that has just been laid -/
theorem app_lit {w : World} (hg : o.guard = none) (s x : Operand) (t : TypeId) (hop : o.op = .call { callee := .builtin .append, args := #[s, x], argTypes := #[t, t] })
    (base : Nat) {e : TypeId} {z : Value} {size bytes : Nat} (T : ET P t e z size bytes)
    (v : Value) (n : Nat) (xs : List Value) (hown : w.ownsRow base e size v n xs) (hs : a.eval s = v)
    (m g : Nat) (news : Array Value) (hx : a.eval x = .slice (some ⟨g, 0, none⟩) m m) (hgs : g = w.heap.size) (hn : news.size = m * size) (h1 : news.toList.all (fun u => u.oneCell') = true)
    (b1 : n + m ≤ maxLen) (b2 : (n + m) * bytes ≤ 140737488355328) (b4 : base ≤ w.heap.size)
    (hK : ∀ a' c' w', w'.ownsRow base e size (.slice a' (n + m) c') (n + m) (xs ++ news.toList) → w.grownBy w' v.ownBlock → Below base w w' → w.heap.size < w'.heap.size → wpList P ops Q rest (a.put o.dst (.slice a' (n + m) c')) w') :
    wpList P ops Q (o :: rest) a (w.alloc (.cells news e)) := by
  subst hgs
  obtain ⟨i, h2, h3, h4, h5⟩ := T.hi
  refine wpList_append_own (w.alloc (.cells news e)) hg s x t hop base e i z size bytes T.ht h2 h3 h4 h5 T.hzs T.hsz v n xs hs (hown.alloc _) ⟨w.heap.size, 0, none⟩ m m news.toList hx (by simpa using hn) ?_ (List.all_eq_true.1 h1) b1 b2 (by simp; omega) fun v' w' hown' hgrow _ => ?_
  · intro j u hu
    rw [Addr.add_lit]
    simpa using hu
  · obtain ⟨a', c', rfl, _, _⟩ := owns_slice hown'
    have hg2 : w.grownBy w' v.ownBlock := by
      have h0 := World.grownBy_alloc w (.cells news e) v.ownBlock
      exact ⟨hgrow.os.trans h0.os, hgrow.tape.trans h0.tape, hgrow.output.trans h0.output, Nat.le_trans h0.size hgrow.size, fun k hk hne => (hgrow.block k (by simp; omega) hne).trans (h0.block k hk hne)⟩
    refine hK _ _ _ hown' hg2 (below_of_grown hg2 rfl hown.lt b4) ?_
    have := hgrow.size
    simp at this
    omega

/-- append(s, x1, .., xm) as the step of a region that draws its order -/
theorem step_app_lit {w : World} {K : Act → World → Prop} {E : Prop} (hg : o.guard = none) (s x : Operand) (t : TypeId) (hop : o.op = .call { callee := .builtin .append, args := #[s, x], argTypes := #[t, t] })
    (base : Nat) {e : TypeId} {z : Value} {size bytes : Nat} (T : ET P t e z size bytes)
    (v : Value) (n : Nat) (xs : List Value) (hown : w.ownsRow base e size v n xs) (hs : a.eval s = v)
    (m g : Nat) (news : Array Value) (hx : a.eval x = .slice (some ⟨g, 0, none⟩) m m) (hgs : g = w.heap.size) (hn : news.size = m * size) (h1 : news.toList.all (fun u => u.oneCell') = true)
    (b1 : n + m ≤ maxLen) (b2 : (n + m) * bytes ≤ 140737488355328) (b4 : base ≤ w.heap.size)
    (hK : ∀ a' c' w', w'.ownsRow base e size (.slice a' (n + m) c') (n + m) (xs ++ news.toList) → w.grownBy w' v.ownBlock → Below base w w' → w.heap.size < w'.heap.size → K (a.put o.dst (.slice a' (n + m) c')) w') :
    if Region.wanted o (yielded ops a.tmps) = true then Oper.wp P o a (w.alloc (.cells news e)).drew K Q else E := by
  have hw : Region.wanted o (yielded ops a.tmps) = true := by simp [Region.wanted, hg]
  rw [if_pos hw]
  subst hgs
  obtain ⟨i, h2, h3, h4, h5⟩ := T.hi
  refine wp_append_own (w.alloc (.cells news e)).drew s x t hop base e i z size bytes T.ht h2 h3 h4 h5 T.hzs T.hsz v n xs hs (hown.alloc _).drew ⟨w.heap.size, 0, none⟩ m m news.toList hx (by simpa using hn) ?_ (List.all_eq_true.1 h1) b1 b2 (by simp; omega) fun v' w' hown' hgrow _ => ?_
  · intro j u hu
    rw [Addr.add_lit]
    simpa using hu
  · obtain ⟨a', c', rfl, _, _⟩ := owns_slice hown'
    have hg2 : w.grownBy w' v.ownBlock := by
      have h0 := World.grownBy_alloc w (.cells news e) v.ownBlock
      exact ⟨hgrow.os.trans h0.os, hgrow.tape.trans h0.tape, hgrow.output.trans h0.output, Nat.le_trans h0.size hgrow.size, fun k hk hne => (hgrow.block k (by simp; omega) hne).trans (h0.block k hk hne)⟩
    refine hK _ _ _ hown' hg2 (below_of_grown hg2 rfl hown.lt b4) ?_
    have := hgrow.size
    simp at this
    omega
end

theorem results_tmp4 {fn : Func} {t u v x : Tmp} (h : fn.results = #[.tmp t, .tmp u, .tmp v, .tmp x]) (tmps : Array Value) (P : Program) (w : World) :
    (results fn tmps).run P w = .ok (.tuple #[tmps.getD t undef, tmps.getD u undef, tmps.getD v undef, tmps.getD x undef]) w := by
  simp [results, h]

end Go.Proofs.YtiglilecmieelaaGreatDoor
namespace Go.Proofs.YtiglilecmieelaaGreatDoor
open Go.RowKit
set_option maxRecDepth 100000
theorem et_int : ET Tryz.prog 22 3 (.int .i64 0) 1 8 := ⟨Tryz.underlying22, info_parts (by kernel_rfl), rfl, by decide⟩
theorem et_u8 : ET Tryz.prog 158 5 (.int .u8 0) 1 1 := ⟨Tryz.underlying158, info_parts (by kernel_rfl), rfl, by decide⟩
theorem et_ints : ET Tryz.prog 36 22 (.slice none 0 0) 1 24 := ⟨Tryz.underlying36, info_parts (by kernel_rfl), rfl, by decide⟩
end Go.Proofs.YtiglilecmieelaaGreatDoor
namespace Go.Proofs.YtiglilecmieelaaGreatDoor
open Go.RowKit

/-- What append leaves: the new value owns the row; blocks other than the old value's are as they were; in the old value's block what stood ahead is as it was. -/
structure Appended (base : Nat) (e : TypeId) (size : Nat) (w w' : World) (v v' : Value) (n m : Nat) (xs news : List Value) : Prop where
  own : w'.ownsRow base e size v' (n + m) (xs ++ news)
  row : w.grownBy w' v.ownBlock
  below : Below base w w'
  grew : w.heap.size ≤ w'.heap.size
  at_ : v'.ownBlock = v.ownBlock ∨ ∃ g, v'.ownBlock = some g ∧ w.heap.size ≤ g
  cell : ∀ a : Addr, a.block < w.heap.size → (v.ownBlock = some a.block → a.off < n * size) → w'.cell? a = w.cell? a

theorem run_append_law {P : Program} {w : World} {t ty e : TypeId} (base : Nat) {z : Value} {size bytes : Nat} (T : ET P t e z size bytes)
    (v : Value) (n : Nat) (xs : List Value) (hown : w.ownsRow base e size v n xs)
    (ad : Option Addr) (m c : Nat) (news : List Value) (hnil : ad = none → c = 0) (hR : Rd w ad m size news) (h1 : ∀ u ∈ news, u.oneCell' = true)
    (b1 : n + m ≤ maxLen) (b2 : (n + m) * bytes ≤ 140737488355328) (b4 : base ≤ w.heap.size) :
    ∃ v' w', (Builtin.append_ #[t, t] ty #[v, .slice ad m c]).run P w = .ok v' w' ∧ Appended base e size w w' v v' n m xs news := by
  obtain ⟨i, hi, hz, h4, h5⟩ := T.hi
  have ht := T.ht
  have hzs := T.hzs
  have hsz := T.hsz
  subst h4 h5
  have hlt0 := hown.lt
  have hsmall : n + m ≤ 9223372036854775807 := by simp only [maxLen] at b1; omega
  have hl : news.length = m * i.size := hR.1
  have hlen : (xs ++ news).length = (n + m) * i.size := by rw [List.length_append, hown.1, hl, Nat.add_mul]
  have refl_ : Appended base e i.size w w v v n 0 xs [] :=
    ⟨by simpa using hown, World.grownBy.refl _ _, Below.refl _ _, Nat.le_refl _, .inl rfl, fun _ _ _ => rfl⟩
  have grown : ∀ (old : Nat), old < n + m →
      Appended base e i.size w (w.drew.alloc (.cells (xs.toArray ++ news.toArray ++ Builtin.zeroCells z.cells (grownCap w (n + m) old e - (n + m))) e)) v
        (.slice (some ⟨w.heap.size, 0, none⟩) (n + m) (grownCap w (n + m) old e)) n m xs news := by
    intro old ho
    have hge := grownCap_ge w (n + m) old e
    have hcm : grownCap w (n + m) old e ≤ maxLen := grownCap_le_maxLen w (n + m) old e b1
    have hg0 : ∀ row, w.grownBy (w.drew.alloc (.cells (xs.toArray ++ news.toArray ++ Builtin.zeroCells z.cells (grownCap w (n + m) old e - (n + m))) e)) row :=
      fun row => ⟨rfl, rfl, rfl, by simp, fun k hk _ => Below.heap_alloc w.drew _ k hk⟩
    refine ⟨⟨hlen, .inr ⟨w.heap.size, _, _, rfl, b4, heap_alloc_new w.drew _, hge, hcm, ?_, ?_⟩⟩, hg0 _, below_of_grown (hg0 _) rfl hlt0 b4, (hg0 none).size, .inr ⟨w.heap.size, rfl, Nat.le_refl _⟩, fun a ha _ => ?_⟩
    · simp only [Array.size_append, List.size_toArray, size_zeroCells, hzs, hown.1, hl, ← Nat.add_mul]
      congr 1
      omega
    · simp only [Array.toList_append, List.append_assoc]
      rw [← List.append_assoc, ← hlen]
      exact List.take_left
    · exact World.cell?_of_block ((hg0 none).block a.block ha (by simp))
  by_cases hm : m = 0 ∧ ad = none
  · obtain ⟨rfl, rfl⟩ := hm
    have hn0 : news = [] := List.eq_nil_of_length_eq_zero (by simpa using hl)
    subst hn0
    have hc0 := hnil rfl
    subst hc0
    refine ⟨v, w, ?_, refl_⟩
    rcases hown.2 with ⟨rfl, _⟩ | ⟨g, cap, cur, rfl, _, _, hle, _, _, _⟩
    · simp [Builtin.append_, run_underlying ht, sizeOf, typeInfo, hi, Builtin.lenOf, Builtin.firstCells]
    · exact run_append_owned_none (P := P) w base t ty e i i.size ht hi _ n xs hown
  · obtain ⟨a, rfl⟩ : ∃ a, ad = some a := by
      cases ad with
      | some a => exact ⟨a, rfl⟩
      | none =>
        rcases hR.2 with h0 | ⟨_, _, h, _⟩
        · exact absurd ⟨h0, rfl⟩ hm
        · cases h
    have hnews : ∀ j u, news[j]? = some u → w.cell? (a.add j) = some u := by
      intro j u hu
      rcases hR.2 with h0 | ⟨b, o, h, _, hc⟩
      · subst h0
        have hn0 : news = [] := List.eq_nil_of_length_eq_zero (by simpa using hl)
        subst hn0
        simp at hu
      · cases h
        rw [Addr.add_lit]
        exact hc j u hu
    rcases hown.2 with ⟨rfl, rfl⟩ | ⟨g, cap, cur, rfl, hbg, hg, hnc, hcm, hcs, htake⟩
    · have hx : xs = [] := List.eq_nil_of_length_eq_zero (by simpa using hown.1)
      subst hx
      by_cases hm0 : m = 0
      · subst hm0
        have hn0 : news = [] := List.eq_nil_of_length_eq_zero (by simpa using hl)
        subst hn0
        refine ⟨.slice none 0 0, w, ?_, refl_⟩
        simp [Builtin.append_, run_underlying ht, sizeOf, typeInfo, hi, Builtin.lenOf, Builtin.firstCells, loadCells, loadCellsFrom]
      · have hr := run_append_nil (P := P) w t ty e i z ht hi hz a m c news hl hnews (by omega) (by omega) (by have hb := b2; simp only [Nat.zero_add] at hb; omega)
        have hgr := grown 0 (by omega)
        simp only [Nat.zero_add, Array.empty_append] at hgr ⊢
        exact ⟨_, _, hr, hgr⟩
    · by_cases hroom : n + m ≤ cap
      · have hfit : n * i.size + news.length ≤ cur.size := by rw [hl, hcs, ← Nat.add_mul]; exact Nat.mul_le_mul_right _ hroom
        have hr := run_append_room (P := P) w t ty e i ht hi g n cap cur hg a m c news hl hnews h1 hroom hfit
        have hg0 : w.grownBy (w.setRow g (cur.toList.take (n * i.size) ++ news ++ cur.toList.drop (n * i.size + news.length)).toArray) (some g) :=
          ⟨rfl, rfl, rfl, by simp, fun k _ hk => setRow_other w g k _ (fun e => hk (by simp [e]))⟩
        refine ⟨_, _, hr, ⟨⟨hlen, .inr ⟨g, cap, _, rfl, hbg, setRow_heap w g cur _ e _ hg, hroom, hcm, ?_, ?_⟩⟩, hg0, below_of_grown hg0 rfl hlt0 b4, hg0.size, .inl rfl, fun a ha hoff => ?_⟩⟩
        · simp only [List.size_toArray, List.length_append, List.length_take, List.length_drop, Array.length_toList]
          omega
        · rw [htake, ← hlen]
          exact List.take_left
        · by_cases hag : a.block = g
          · have ho := hoff (by simp [Value.ownBlock, hag])
            obtain ⟨ab, ao, as1⟩ := a
            simp only at hag ho
            subst hag
            simp only [World.cell?, setRow_heap w ab cur _ e _ hg, hg]
            cases as1 with
            | some s => rfl
            | none =>
              have hlt : ao < (cur.toList.take (n * i.size)).length := by simp; omega
              simp only [Option.isSome_none, Bool.false_eq_true, if_false, List.getElem?_toArray, List.append_assoc]
              rw [List.getElem?_append_left hlt, List.getElem?_take, if_pos ho]
              simp
          · exact World.cell?_of_block (hg0.block a.block ha (by simpa using hag))
      · have holds : ∀ j u, xs[j]? = some u → w.cell? ((⟨g, 0, none⟩ : Addr).add j) = some u := hown.cells (g := g) rfl
        have hr := run_append_grow (P := P) w t ty e i z ht hi hz ⟨g, 0, none⟩ n cap xs hown.1 holds a m c news hl hnews (by omega) (by omega) (growslice_fits (by omega) b2)
        exact ⟨_, _, hr, grown cap (by omega)⟩

theorem Appended.rd {base size n m sz k : Nat} {e : TypeId} {w w' : World} {v v' : Value} {xs news cs : List Value} {a : Option Addr} (h : Appended base e size w w' v v' n m xs news)
    (hr : Rd w a k sz cs) (hoff : ∀ b o, a = some ⟨b, o, none⟩ → v.ownBlock = some b → o + k * sz ≤ n * size) : Rd w' a k sz cs := by
  refine ⟨hr.1, ?_⟩
  rcases hr.2 with h0 | ⟨b, o, ha, hlt, hc⟩
  · exact .inl h0
  · refine .inr ⟨b, o, ha, Nat.lt_of_lt_of_le hlt h.grew, fun j u hu => ?_⟩
    rw [h.cell ⟨b, o + j, none⟩ hlt fun e => ?_]
    · exact hc j u hu
    · have := hoff b o ha e
      have h2 := (List.getElem?_eq_some_iff.1 hu).1
      have h3 := hr.1
      simp only
      omega

theorem Appended.keeps {base base' size n m sz k : Nat} {e e' : TypeId} {w w' : World} {v v' u : Value} {xs news cs : List Value} (h : Appended base e size w w' v v' n m xs news)
    (ho : w.ownsRow base' e' sz u k cs) (hne : u.ownBlock = none ∨ u.ownBlock ≠ v.ownBlock) : w'.ownsRow base' e' sz u k cs := ho.kept h.row hne

section
variable {P : Program} {ops : Array Oper} {rest : List Oper} {o : Oper} {a : Act} {Q : Exit → Act → World → Prop}

/-- append(s, x...) -/
theorem apx {w : World} (hg : o.guard = none) (s x : Operand) (t : TypeId) (hop : o.op = .call { callee := .builtin .append, args := #[s, x], argTypes := #[t, t] })
    (base : Nat) {e : TypeId} {z : Value} {size bytes : Nat} (T : ET P t e z size bytes)
    (v : Value) (n : Nat) (xs : List Value) (hown : w.ownsRow base e size v n xs) (hs : a.eval s = v)
    (ad : Option Addr) (m c : Nat) (news : List Value) (hx : a.eval x = .slice ad m c) (hnil : ad = none → c = 0) (hR : Rd w ad m size news) (h1 : ∀ u ∈ news, u.oneCell' = true)
    (b1 : n + m ≤ maxLen) (b2 : (n + m) * bytes ≤ 140737488355328) (b4 : base ≤ w.heap.size)
    (hK : ∀ a' c' w', Appended base e size w w' v (.slice a' (n + m) c') n m xs news → wpList P ops Q rest (a.put o.dst (.slice a' (n + m) c')) w') :
    wpList P ops Q (o :: rest) a w := by
  obtain ⟨v', w', hrun, happ⟩ := run_append_law (ty := o.type) base T v n xs hown ad m c news hnil hR h1 b1 b2 b4
  obtain ⟨a', c', rfl, _, _⟩ := owns_slice happ.own
  refine wpList_plain hg fun K hK' => ?_
  unfold Oper.wp
  simp [execOp, hop, resolve, invoke, builtin, hs, hx, hrun, Result.andThen]
  exact hK' _ _ (hK _ _ _ happ)

theorem Appended.of_alloc {base size n m : Nat} {e e2 : TypeId} {w w' : World} {v v' : Value} {xs news : List Value} {cs : Array Value} (h : Appended base e size (w.alloc (.cells cs e2)) w' v v' n m xs news) (hlt : ∀ k, v.ownBlock = some k → base ≤ k ∧ k < w.heap.size) (hb : base ≤ w.heap.size) : Appended base e size w w' v v' n m xs news := by
  have h0 := World.grownBy_alloc w (.cells cs e2) v.ownBlock
  have hg : w.grownBy w' v.ownBlock := ⟨h.row.os.trans h0.os, h.row.tape.trans h0.tape, h.row.output.trans h0.output, Nat.le_trans h0.size h.row.size, fun k hk hne => (h.row.block k (by simp; omega) hne).trans (h0.block k hk hne)⟩
  refine ⟨h.own, hg, below_of_grown hg rfl hlt hb, hg.size, ?_, fun a ha ho => ?_⟩
  · rcases h.at_ with h1 | ⟨g, h1, h2⟩
    · exact .inl h1
    · exact .inr ⟨g, h1, by simp at h2; omega⟩
  · rw [h.cell a (by simp; omega) ho]
    exact World.cell?_alloc_lt _ _ _ ha

/-- append(s, x1, .., xm): the new elements lie in a block that has just been laid -/
theorem apl {w : World} (hg : o.guard = none) (s x : Operand) (t : TypeId) (hop : o.op = .call { callee := .builtin .append, args := #[s, x], argTypes := #[t, t] })
    (base : Nat) {e : TypeId} {z : Value} {size bytes : Nat} (T : ET P t e z size bytes)
    (v : Value) (n : Nat) (xs : List Value) (hown : w.ownsRow base e size v n xs) (hs : a.eval s = v)
    (m g : Nat) (news : Array Value) (hx : a.eval x = .slice (some ⟨g, 0, none⟩) m m) (hgs : g = w.heap.size) (hn : news.size = m * size) (h1 : news.toList.all (fun u => u.oneCell') = true)
    (b1 : n + m ≤ maxLen) (b2 : (n + m) * bytes ≤ 140737488355328) (b4 : base ≤ w.heap.size)
    (hK : ∀ a' c' w', Appended base e size w w' v (.slice a' (n + m) c') n m xs news.toList → wpList P ops Q rest (a.put o.dst (.slice a' (n + m) c')) w') :
    wpList P ops Q (o :: rest) a (w.alloc (.cells news e)) := by
  refine apx hg s x t hop base T v n xs (hown.alloc _) hs _ m m news.toList hx (by simp) (rd_new hgs hn) (List.all_eq_true.1 h1) b1 b2 (by simp; omega) fun a' c' w' h => hK a' c' w' ?_
  exact h.of_alloc hown.lt b4

/-- the same as the step of a region that draws its order -/
theorem stx {w : World} {K : Act → World → Prop} {E : Prop} (hg : o.guard = none) (s x : Operand) (t : TypeId) (hop : o.op = .call { callee := .builtin .append, args := #[s, x], argTypes := #[t, t] })
    (base : Nat) {e : TypeId} {z : Value} {size bytes : Nat} (T : ET P t e z size bytes)
    (v : Value) (n : Nat) (xs : List Value) (hown : w.ownsRow base e size v n xs) (hs : a.eval s = v)
    (ad : Option Addr) (m c : Nat) (news : List Value) (hx : a.eval x = .slice ad m c) (hnil : ad = none → c = 0) (hR : Rd w ad m size news) (h1 : ∀ u ∈ news, u.oneCell' = true)
    (b1 : n + m ≤ maxLen) (b2 : (n + m) * bytes ≤ 140737488355328) (b4 : base ≤ w.heap.size)
    (hK : ∀ a' c' w', Appended base e size w w' v (.slice a' (n + m) c') n m xs news → K (a.put o.dst (.slice a' (n + m) c')) w') :
    if Region.wanted o (yielded ops a.tmps) = true then Oper.wp P o a w K Q else E := by
  have hw : Region.wanted o (yielded ops a.tmps) = true := by simp [Region.wanted, hg]
  rw [if_pos hw]
  obtain ⟨v', w', hrun, happ⟩ := run_append_law (ty := o.type) base T v n xs hown ad m c news hnil hR h1 b1 b2 b4
  obtain ⟨a', c', rfl, _, _⟩ := owns_slice happ.own
  unfold Oper.wp
  simp [execOp, hop, resolve, invoke, builtin, hs, hx, hrun, Result.andThen]
  exact hK _ _ _ happ
end
end Go.Proofs.YtiglilecmieelaaGreatDoor
namespace Go.Proofs.YtiglilecmieelaaGreatDoor
open Go.RowKit
set_option linter.unusedVariables false
set_option maxRecDepth 100000

/-- store into a row of the call's own -/
theorem own_set {w : World} {base sz n : Nat} {e : TypeId} {g c : Nat} {cs : List Value} (h : w.ownsRow base e sz (.slice (some ⟨g, 0, none⟩) n c) n cs) (j : Nat) (u : Value) :
    (w.setCell ⟨g, j, none⟩ u).ownsRow base e sz (.slice (some ⟨g, 0, none⟩) n c) n (cs.set j u) := (h.stored j u).1
theorem own_set_other {w : World} {base sz n g j : Nat} {e : TypeId} {v : Value} {cs : List Value} (h : w.ownsRow base e sz v n cs) (hne : v.ownBlock ≠ some g) (u : Value) : (w.setCell ⟨g, j, none⟩ u).ownsRow base e sz v n cs := by
  refine ⟨h.1, ?_⟩
  rcases h.2 with hn | ⟨g', cap, cur, rfl, hbg, hg, rest⟩
  · exact .inl hn
  · refine .inr ⟨g', cap, cur, rfl, hbg, ?_, rest⟩
    rw [Below.heap_setCell _ _ _ _ (by intro e; apply hne; simp [Value.ownBlock, e])]
    exact hg
theorem own_form {w : World} {base sz n c : Nat} {e : TypeId} {a : Option Addr} {cs : List Value} (h : w.ownsRow base e sz (.slice a n c) n cs) (hn : 0 < n) : ∃ g, a = some ⟨g, 0, none⟩ ∧ base ≤ g ∧ g < w.heap.size := by
  have hlt := h.lt
  rcases h.2 with ⟨h1, h2⟩ | ⟨g, cap, cur, h1, h2, h3, _⟩
  · omega
  · cases h1
    exact ⟨g, rfl, (hlt g rfl).1, (hlt g rfl).2⟩

theorem set_step (k : Nat) (u : Value) (bs : List Value) (hk : k < bs.length) : (List.replicate k u ++ bs.drop k).set k u = List.replicate (k + 1) u ++ bs.drop (k + 1) := by
  rw [List.set_append_right _ _ (by simp)]
  simp only [List.length_replicate, Nat.sub_self]
  rw [List.drop_eq_getElem_cons hk, List.set_cons_zero, List.replicate_succ', List.append_assoc]
  rfl

/-- two values do not own one block -/
def Ap (v u : Value) : Prop := ∀ g, v.ownBlock = some g → u.ownBlock ≠ some g
theorem Ap.symm {v u : Value} (h : Ap v u) : Ap u v := fun g h1 h2 => h g h2 h1
theorem Ap.ne {v u : Value} (h : Ap v u) : u.ownBlock = none ∨ u.ownBlock ≠ v.ownBlock := by
  cases hu : u.ownBlock with
  | none => exact .inl rfl
  | some g => exact .inr fun e => h g e.symm hu
theorem Ap.app {base size n m : Nat} {e : TypeId} {w w' : World} {v v' u : Value} {xs news : List Value} (h : Ap v u) (ha : Appended base e size w w' v v' n m xs news) (hu : ∀ g, u.ownBlock = some g → g < w.heap.size) : Ap v' u := by
  intro g hg hug
  rcases ha.at_ with h1 | ⟨g', h1, h2⟩
  · exact h g (h1 ▸ hg) hug
  · rw [hg] at h1; cases h1; have := hu g hug; omega
theorem own_lt {w : World} {base sz n : Nat} {e : TypeId} {v : Value} {cs : List Value} (h : w.ownsRow base e sz v n cs) : ∀ g, v.ownBlock = some g → g < w.heap.size := fun g hg => (h.lt g hg).2
theorem own_off {w : World} {base sz n m c b o : Nat} {e : TypeId} {a : Option Addr} {cs : List Value} (h : w.ownsRow base e sz (.slice a m c) n cs) (ha : a = some ⟨b, o, none⟩) : o = 0 ∧ (Value.slice a m c).ownBlock = some b := by
  subst ha
  rcases h.2 with ⟨h1, _⟩ | ⟨g, _, _, h1, _⟩
  · cases h1
  · cases h1; exact ⟨rfl, rfl⟩
/-- what an owned row reads as stays while another row, or the same behind it, is appended to -/
theorem Appended.rd_own {base base' size n m sz k c : Nat} {e e' : TypeId} {w w0 w' : World} {v v' : Value} {a : Option Addr} {xs news cs cs' : List Value} (h : Appended base e size w w' v v' n m xs news)
    (ho : w0.ownsRow base' e' sz (.slice a k c) k cs') (hr : Rd w a k sz cs) (hn : Ap v (.slice a k c) ∨ k * sz ≤ n * size) : Rd w' a k sz cs := by
  refine h.rd hr fun b o hab hvb => ?_
  obtain ⟨rfl, h2⟩ := own_off ho hab
  rcases hn with hn | hn
  · exact absurd h2 (hn b hvb)
  · omega

theorem own_empty {w : World} {e : TypeId} {sz : Nat} (base g : Nat) (hg : g = w.heap.size) (hb : base ≤ w.heap.size) : (w.alloc (.cells #[] e)).ownsRow base e sz (.slice (some ⟨g, 0, none⟩) 0 0) 0 [] := by
  subst hg
  exact World.ownsRow_made w #[] 0 hb (by decide) (by simp)

theorem wrap64_in (n : Int) (h : -9223372036854775808 ≤ n ∧ n ≤ 9223372036854775807) : wrap64 n = n := by unfold wrap64; omega
theorem Rd.take {w : World} {a : Option Addr} {n k sz : Nat} {cs : List Value} (h : Rd w a n sz cs) (hk : k ≤ n) : Rd w a k sz (cs.take (k * sz)) := by
  have hm : k * sz ≤ n * sz := Nat.mul_le_mul_right _ hk
  refine ⟨by rw [List.length_take, h.1]; omega, ?_⟩
  rcases h.2 with h0 | ⟨b, o, ha, hlt, hc⟩
  · exact .inl (by omega)
  · refine .inr ⟨b, o, ha, hlt, fun j u hu => hc j u ?_⟩
    rw [List.getElem?_take] at hu
    split at hu
    · exact hu
    · cases hu
theorem own_lit {w : World} {base g n sz : Nat} {e : TypeId} {cs : Array Value} (hg : g = w.heap.size) (hb : base ≤ w.heap.size) (hn : n ≤ maxLen) (hs : cs.size = n * sz) : (w.alloc (.cells cs e)).ownsRow base e sz (.slice (some ⟨g, 0, none⟩) n n) n cs.toList := by
  subst hg
  exact ⟨by simpa using hs, .inr ⟨w.heap.size, n, cs, rfl, hb, heap_alloc_new w _, Nat.le_refl _, hn, hs, by rw [List.take_of_length_le (by simp; omega)]⟩⟩


/-- the law's call returns true, and what was there is as it was -/
def TrueBelow (W : World) (e : Ending) (w' : World) : Prop := e = .returned (.bool true) ∧ Below W.heap.size W w'
end Go.Proofs.YtiglilecmieelaaGreatDoor
namespace Go.Proofs.YtiglilecmieelaaGreatDoor
open Go.RowKit
set_option linter.unusedVariables false

/-- what copy leaves: the row with the new cells laid over it; the other blocks as they were -/
structure Copied (base : Nat) (e : TypeId) (w w' : World) (g n c : Nat) (xs' : List Value) : Prop where
  own : w'.ownsRow base e 1 (.slice (some ⟨g, 0, none⟩) n c) n xs'
  below : Below base w w'
  other : ∀ k, k ≠ g → w'.heap[k]? = w.heap[k]?
  size : w'.heap.size = w.heap.size

theorem splice_take {cur : List Value} {n off : Nat} {cs : List Value} (h : off + cs.length ≤ n) (hn : n ≤ cur.length) : (splice cur off cs).take n = splice (cur.take n) off cs := by
  unfold splice
  have h1 : (cur.take off).length = off := by simp; omega
  rw [List.take_append, h1, List.take_append, List.take_of_length_le (l := cur.take off) (by rw [h1]; omega), List.take_of_length_le (l := cs) (by omega), List.take_take, Nat.min_eq_left (by omega), List.drop_take, Nat.sub_sub]

theorem run_copy_law {P : Program} {w : World} {dT sT ty : TypeId}
    (base : Nat) {e : TypeId} {z : Value} {bytes : Nat} (T : ET P dT e z 1 bytes) {g n c : Nat} {xs : List Value} (hown : w.ownsRow base e 1 (.slice (some ⟨g, 0, none⟩) n c) n xs)
    (dp sp : Option Addr) (off dLen dCap sLen sCap m : Nat) (news : List Value) (hm : Nat.min sLen dLen = m)
    (hdp : 0 < m → dp = some ⟨g, off, none⟩) (hR : Rd w sp sLen 1 news) (h1 : ∀ u ∈ news, u.oneCell' = true) (hfit : off + m ≤ n) :
    ∃ w', (Builtin.copy_ #[dT, sT] ty #[.slice dp dLen dCap, .slice sp sLen sCap]).run P w = .ok (.int .i64 m) w' ∧ Copied base e w w' g n c (splice xs off (news.take m)) := by
  subst hm
  obtain ⟨i, hi, hz, h4, h5⟩ := T.hi
  have hsz : (P.info? e).map (·.size) = some 1 := by simp [hi, h4]
  have hnl : news.length = sLen := by simpa using hR.1
  by_cases h0 : Nat.min sLen dLen = 0
  · have hrun := run_copy_none (P := P) w dT sT ty e dp sp dLen dCap sLen sCap T.ht hsz h0
    rw [h0]
    refine ⟨w, hrun, ?_, Below.refl _ _, fun _ _ => rfl, rfl⟩
    have e : splice xs off (List.take 0 news) = xs := by simp [splice]
    rw [e]; exact hown
  · have hpos : 0 < Nat.min sLen dLen := by omega
    obtain rfl := hdp hpos
    have hle1 : Nat.min sLen dLen ≤ sLen := Nat.min_le_left ..
    obtain ⟨b, ob, rfl, hlt, hc⟩ := hR.2.resolve_left (by omega)
    rcases hown.2 with ⟨h, _⟩ | ⟨g', cap, cur, h, hbg, hg, hnc, hcm, hcs, htake⟩
    · cases h
    · cases h
      have hml : (news.take (Nat.min sLen dLen)).length = Nat.min sLen dLen := by rw [List.length_take, hnl]; omega
      have hcs' : cur.size = c := by simpa using hcs
      have hrun := run_copy_row (P := P) w dT sT ty e g off dLen dCap ⟨b, ob, none⟩ sLen sCap cur e (news.take (Nat.min sLen dLen)) T.ht hsz hg hml
        (fun j v hj => by
          rw [Addr.add_lit]
          rw [List.getElem?_take] at hj
          split at hj
          · exact hc j v hj
          · cases hj) (by rw [hml]; omega) (fun v hv => h1 v (List.mem_of_mem_take hv))
      rw [hml] at hrun
      refine ⟨_, hrun, ⟨?_, .inr ⟨g, c, _, rfl, hbg, setRow_heap w g _ _ e _ hg, hnc, hcm, ?_, ?_⟩⟩, ?_, fun k hk => setRow_other w g k _ hk, by simp [World.setRow]⟩
      · rw [length_splice _ _ _ (by rw [hml, hown.1]; simpa using hfit)]
        exact hown.1
      · simp only [List.size_toArray, List.length_append, List.length_take, List.length_drop, Array.length_toList]
        have hnl2 : Nat.min sLen dLen ≤ news.length := by omega
        rw [Nat.min_eq_left hnl2, Nat.min_eq_left (by omega)]
        omega
      · have := splice_take (cur := cur.toList) (n := n) (off := off) (cs := news.take (Nat.min sLen dLen)) (by rw [hml]; exact hfit) (by simp; omega)
        rw [Nat.mul_one] at htake ⊢
        rw [htake] at this
        rw [← this]
        unfold splice
        rw [hml]
        simp
      · exact below_setRow (Below.refl _ _) hbg _

section
variable {P : Program} {ops : Array Oper} {rest : List Oper} {o : Oper} {a : Act} {Q : Exit → Act → World → Prop}
/-- copy(d, s) -/
theorem cpy {w : World} (hgd : o.guard = none) (d s : Operand) (dT sT : TypeId) (ho : o.op = .call { callee := .builtin .copy, args := #[d, s], argTypes := #[dT, sT] })
    (base : Nat) {e : TypeId} {z : Value} {bytes : Nat} (T : ET P dT e z 1 bytes) {g n c : Nat} {xs : List Value} (hown : w.ownsRow base e 1 (.slice (some ⟨g, 0, none⟩) n c) n xs)
    (dp sp : Option Addr) (off dLen dCap sLen sCap m : Nat) (news : List Value) (hd : a.eval d = .slice dp dLen dCap) (hs : a.eval s = .slice sp sLen sCap) (hm : Nat.min sLen dLen = m)
    (hdp : 0 < m → dp = some ⟨g, off, none⟩) (hR : Rd w sp sLen 1 news) (h1 : ∀ u ∈ news, u.oneCell' = true) (hfit : off + m ≤ n)
    (hK : ∀ w', Copied base e w w' g n c (splice xs off (news.take m)) → wpList P ops Q rest (a.put o.dst (.int .i64 m)) w') : wpList P ops Q (o :: rest) a w := by
  obtain ⟨w', hrun, hc⟩ := run_copy_law (sT := sT) (ty := o.type) base T hown dp sp off dLen dCap sLen sCap m news hm hdp hR h1 hfit
  refine wpList_plain hgd fun K hK' => ?_
  unfold Oper.wp
  simp [execOp, ho, resolve, invoke, builtin, hd, hs, hrun, Result.andThen]
  exact hK' _ _ (hK w' hc)
end
end Go.Proofs.YtiglilecmieelaaGreatDoor
namespace Go.Proofs.YtiglilecmieelaaGreatDoor
open Go.RowKit

/-- the number of the variable that holds the error of a number -/
def rix (n : Int) : Nat := if n = 1 then 0 else if n = 2 then 1 else if n = 3 then 2 else if n = 4 then 3 else if n = 5 then 4 else if n = 6 then 5 else if n = 7 then 6 else if n = 8 then 7 else if n = 9 then 8 else if n = 10 then 9 else if n = 11 then 10 else 11

def gix (k : Nat) : Nat := [2, 3, 4, 1, 5, 6, 7, 8, 9, 10, 11, 12].getD k 0

/-- the package-level errors lie where R says -/
def Glob (w : World) (R : Nat → Addr) : Prop := ∀ k, k < 12 → w.cell? ⟨gix k, 0, none⟩ = some (.iface 172 (.pointer (some (R k))))


set_option maxHeartbeats 1000000 in
theorem root_any (n : Int) (w : World) (R : Nat → Addr) (hG : Glob w R) :
    Calls Tryz.prog 52 #[.int .i64 n] w fun e w' => e = .returned (.iface 172 (.pointer (some (R (rix n))))) ∧ w = w' := by
  have h0 := hG 0 (by omega)
  have h1 := hG 1 (by omega)
  have h2 := hG 2 (by omega)
  have h3 := hG 3 (by omega)
  have h4 := hG 4 (by omega)
  have h5 := hG 5 (by omega)
  have h6 := hG 6 (by omega)
  have h7 := hG 7 (by omega)
  have h8 := hG 8 (by omega)
  have h9 := hG 9 (by omega)
  have h10 := hG 10 (by omega)
  have h11 := hG 11 (by omega)
  simp only [gix, List.getD_cons_zero, List.getD_cons_succ] at h0 h1 h2 h3 h4 h5 h6 h7 h8 h9 h10 h11
  clear hG
  go_enter Tryz.func52, Tryz.ntmps52
  go_wp2
  all_goals (go_ret; exact ⟨by simp_all [rix], rfl⟩)

/-- a fault at the address, over what it wraps -/
def faultObj (op : ByteArray) (at_ : Int) (x : Value) : Obj := .cells #[.string op, .int .i64 at_, x] 78

/-- v is the fault (op, at, number n), in a block of its own, from B on -/
def IsErr (B : Nat) (R : Nat → Addr) (w : World) (v : Value) (op : ByteArray) (at_ n : Int) : Prop :=
  ∃ g, v = .iface 75 (.pointer (some ⟨g, 0, none⟩)) ∧ B ≤ g ∧ w.heap[g]? = some (faultObj op at_ (.iface 172 (.pointer (some (R (rix n))))))

theorem isErr_new {B : Nat} {R : Nat → Addr} {w : World} {op : ByteArray} {at_ n : Int} (hB : B ≤ w.heap.size) :
    IsErr B R (w.alloc (faultObj op at_ (.iface 172 (.pointer (some (R (rix n))))))) (.iface 75 (.pointer (some ⟨w.heap.size, 0, none⟩))) op at_ n :=
  ⟨_, rfl, hB, heap_alloc_new w _⟩

theorem isErr_at {B g : Nat} {R : Nat → Addr} {w : World} {op : ByteArray} {at_ n : Int} (hg : g = w.heap.size) (hB : B ≤ w.heap.size) :
    IsErr B R (w.alloc (faultObj op at_ (.iface 172 (.pointer (some (R (rix n))))))) (.iface 75 (.pointer (some ⟨g, 0, none⟩))) op at_ n := by
  subst hg; exact isErr_new hB

theorem Glob.below {w w' : World} {R : Nat → Addr} {B : Nat} (h : Glob w R) (hb : Below B w w') (hB : w.heap.size ≤ B) : Glob w' R := by
  intro k hk
  have h0 := h k hk
  rw [hb.cell (Nat.lt_of_lt_of_le (World.block_lt_of_cell? _ _ h0) hB)]
  exact h0

theorem Glob.alloc {w : World} {R : Nat → Addr} (h : Glob w R) (o : Obj) : Glob (w.alloc o) R := h.below ((Below.refl _ _).alloc (Nat.le_refl _) o) (Nat.le_refl _)
theorem Glob.up {w w' : World} {R : Nat → Addr} (h : Glob w R) (hb : Below w.heap.size w w') : Glob w' R := h.below hb (Nat.le_refl _)
theorem Glob.alloc' {w w' : World} {R : Nat → Addr} {o : Obj} (h : Glob w R) (hb : Below (w.alloc o).heap.size (w.alloc o) w') : Glob w' R := (h.alloc o).below hb (Nat.le_refl _)
theorem Glob.drewN {w : World} {R : Nat → Addr} {n : Nat} (h : Glob w R) : Glob (w.drewN n) R := h

theorem new_err (op : ByteArray) (at_ n : Int) (w : World) (R : Nat → Addr) (hG : Glob w R) (hn : (n == 0) = false) :
    Calls Tryz.prog 27 #[.string op, .int .i64 at_, .int .i64 n] w fun e w' =>
      e = .returned (.iface 75 (.pointer (some ⟨w.heap.size, 0, none⟩))) ∧ w' = w.alloc (faultObj op at_ (.iface 172 (.pointer (some (R (rix n)))))) := by
  go_enter Tryz.func27, Tryz.ntmps27
  go_wp2_with (first | (go_at_call 52; refine (root_any _ _ R hG).mono ?_; rintro e w' ⟨rfl, rfl⟩))
  go_ret
  exact ⟨rfl, rfl⟩

/-! the packages' names -/
def opCert : ByteArray := ⟨#[99, 101, 114, 116]⟩
def opWord : ByteArray := ⟨#[119, 111, 114, 100]⟩
def opNat : ByteArray := ⟨#[110, 97, 116]⟩
def opRule : ByteArray := ⟨#[114, 117, 108, 101]⟩
def opRing : ByteArray := ⟨#[114, 105, 110, 103]⟩
def opRow : ByteArray := ⟨#[114, 111, 119]⟩
def opMat : ByteArray := ⟨#[109, 97, 116]⟩
def opCount : ByteArray := ⟨#[99, 111, 117, 110, 116]⟩
def opPatch : ByteArray := ⟨#[112, 97, 116, 99, 104]⟩
def opPlane : ByteArray := ⟨#[112, 108, 97, 110, 101]⟩
def opJudge : ByteArray := ⟨#[106, 117, 100, 103, 101]⟩
def opEve : ByteArray := ⟨#[101, 118, 101]⟩
def opOverlap : ByteArray := ⟨#[111, 118, 101, 114, 108, 97, 112]⟩
def opBag : ByteArray := ⟨#[98, 97, 103]⟩
def opSubset : ByteArray := ⟨#[115, 117, 98, 115, 101, 116]⟩
def opImage : ByteArray := ⟨#[105, 109, 97, 103, 101]⟩
def opGraph : ByteArray := ⟨#[103, 114, 97, 112, 104]⟩
def opPairs : ByteArray := ⟨#[112, 97, 105, 114, 115]⟩
def opInject : ByteArray := ⟨#[105, 110, 106, 101, 99, 116]⟩
def opTwins : ByteArray := ⟨#[116, 119, 105, 110, 115]⟩
def opForms : ByteArray := ⟨#[102, 111, 114, 109, 115]⟩
theorem rule_wrong (at_ n : Int) (w : World) (R : Nat → Addr) (hG : Glob w R) (hn : (n == 0) = false) : Calls Tryz.prog 63 #[.int .i64 at_, .int .i64 n] w fun e w' => e = .returned (.iface 75 (.pointer (some ⟨w.heap.size, 0, none⟩))) ∧ w' = w.alloc (faultObj opRule at_ (.iface 172 (.pointer (some (R (rix n)))))) := by
  go_enter Tryz.func63, Tryz.ntmps63
  go_wp2_with (first | (go_at_call 27; refine (new_err _ _ _ _ R hG hn).mono ?_; rintro e w' ⟨rfl, rfl⟩))
  go_ret
  exact ⟨rfl, rfl⟩
theorem overlap_wrong (at_ n : Int) (w : World) (R : Nat → Addr) (hG : Glob w R) (hn : (n == 0) = false) : Calls Tryz.prog 59 #[.int .i64 at_, .int .i64 n] w fun e w' => e = .returned (.iface 75 (.pointer (some ⟨w.heap.size, 0, none⟩))) ∧ w' = w.alloc (faultObj opOverlap at_ (.iface 172 (.pointer (some (R (rix n)))))) := by
  go_enter Tryz.func59, Tryz.ntmps59
  go_wp2_with (first | (go_at_call 27; refine (new_err _ _ _ _ R hG hn).mono ?_; rintro e w' ⟨rfl, rfl⟩))
  go_ret
  exact ⟨rfl, rfl⟩
theorem bag_wrong (at_ n : Int) (w : World) (R : Nat → Addr) (hG : Glob w R) (hn : (n == 0) = false) : Calls Tryz.prog 43 #[.int .i64 at_, .int .i64 n] w fun e w' => e = .returned (.iface 75 (.pointer (some ⟨w.heap.size, 0, none⟩))) ∧ w' = w.alloc (faultObj opBag at_ (.iface 172 (.pointer (some (R (rix n)))))) := by
  go_enter Tryz.func43, Tryz.ntmps43
  go_wp2_with (first | (go_at_call 27; refine (new_err _ _ _ _ R hG hn).mono ?_; rintro e w' ⟨rfl, rfl⟩))
  go_ret
  exact ⟨rfl, rfl⟩
theorem pairs_wrong (at_ n : Int) (w : World) (R : Nat → Addr) (hG : Glob w R) (hn : (n == 0) = false) : Calls Tryz.prog 38 #[.int .i64 at_, .int .i64 n] w fun e w' => e = .returned (.iface 75 (.pointer (some ⟨w.heap.size, 0, none⟩))) ∧ w' = w.alloc (faultObj opPairs at_ (.iface 172 (.pointer (some (R (rix n)))))) := by
  go_enter Tryz.func38, Tryz.ntmps38
  go_wp2_with (first | (go_at_call 27; refine (new_err _ _ _ _ R hG hn).mono ?_; rintro e w' ⟨rfl, rfl⟩))
  go_ret
  exact ⟨rfl, rfl⟩
theorem forms_wrong (at_ n : Int) (w : World) (R : Nat → Addr) (hG : Glob w R) (hn : (n == 0) = false) : Calls Tryz.prog 65 #[.int .i64 at_, .int .i64 n] w fun e w' => e = .returned (.iface 75 (.pointer (some ⟨w.heap.size, 0, none⟩))) ∧ w' = w.alloc (faultObj opForms at_ (.iface 172 (.pointer (some (R (rix n)))))) := by
  go_enter Tryz.func65, Tryz.ntmps65
  go_wp2_with (first | (go_at_call 27; refine (new_err _ _ _ _ R hG hn).mono ?_; rintro e w' ⟨rfl, rfl⟩))
  go_ret
  exact ⟨rfl, rfl⟩
end Go.Proofs.YtiglilecmieelaaGreatDoor
