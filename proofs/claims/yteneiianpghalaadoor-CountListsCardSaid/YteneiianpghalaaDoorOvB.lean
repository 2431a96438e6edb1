/- The search of package overlap: its state in memory, and what a call may turn. -/
import Derived.Test.YteneiianpghalaaDoorOvA
import Derived.Test.YteneiianpghalaaDoorOvP
import Derived.Test.YteneiianpghalaaDoorOvN
import Derived.Test.YteneiianpghalaaDoorClone
import Derived.Test.YteneiianpghalaaDoorLent
namespace Go.Proofs.YteneiianpghalaaDoor
open Go.RowKit
set_option linter.unusedVariables false
set_option maxRecDepth 100000

def blv (N : Nat) (D : Nat → Bool) : List Value := (List.range N).map fun u => .bool (D u)
def rwv (n N : Nat) (gr : Nat → Nat) : List Value := (List.range n).map fun i => .slice (some ⟨gr i, 0, none⟩) N N
theorem blv_at {N u : Nat} (D : Nat → Bool) (h : u < N) : (blv N D)[u]? = some (.bool (D u)) := by simp [blv, h]
theorem rwv_at {n i : Nat} (N : Nat) (gr : Nat → Nat) (h : i < n) : (rwv n N gr)[i]? = some (.slice (some ⟨gr i, 0, none⟩) N N) := by simp [rwv, h]
theorem blv_set {N u : Nat} (D : Nat → Bool) (b : Bool) (h : u < N) : (blv N D).set u (.bool b) = blv N (fun v => if v = u then b else D v) := by
  refine List.ext_getElem? fun j => ?_
  by_cases hj : j < N
  · rw [blv_at _ hj, List.getElem?_set]
    by_cases e : u = j
    · subst e; simp [blv, h]
    · rw [if_neg e, blv_at _ hj, if_neg (fun q => e q.symm)]
  · rw [List.getElem?_eq_none (by simp [blv]; omega), List.getElem?_eq_none (by simp [blv]; omega)]
/-- where the search's parts lie -/
structure DLay (B gd ga n : Nat) (gr : Nat → Nat) : Prop where
  d : B ≤ gd
  a : B ≤ ga
  r : ∀ i, i < n → B ≤ gr i
  inj : ∀ i j, i < n → j < n → gr i = gr j → i = j
/-- the search's state -/
structure DState (w : World) (B k r : Nat) (aT : Option Addr) (T cT : Nat) (aw : Option Addr) (n cw M gd ga N : Nat) (gr : Nat → Nat) (D : Nat → Nat → Bool) (al : Option Addr) (L cl : Nat) (more : Bool) : Prop where
  ds : w.heap[gd]? = some (.cells #[.int .i64 k, .int .i64 r, .slice aT T cT, .slice aw n cw, .slice (some ⟨ga, 0, none⟩) n n, .int .i64 M, .slice al L cl, .bool more] 105)
  at_ : w.heap[ga]? = some (.cells (rwv n N gr).toArray 106)
  rw_ : ∀ i, i < n → w.heap[gr i]? = some (.cells (blv N (D i)).toArray 4)
  li : ∃ ls, w.ownsRow B 22 1 (.slice al L cl) L ls
def XOwn (w : World) (B : Nat) (ax : Option Addr) (nx cx : Nat) : Prop := ∃ l : List Int, w.ownsRow B 3 1 (.slice ax nx cx) nx (l.map (Value.int .i64))
theorem heap_ltO {w : World} {b : Nat} {o : Obj} (h : w.heap[b]? = some o) : b < w.heap.size := (Array.getElem?_eq_some_iff.1 h).1
theorem own_ne {w : World} {B sz n g : Nat} {e t : TypeId} {v : Value} {cs : List Value} {xs : Array Value} (h : w.ownsRow B e sz v n cs) (hg : w.heap[g]? = some (.cells xs t)) (hne : e ≠ t) : v.ownBlock ≠ some g := by
  intro hb
  rcases h.2 with ⟨rfl, _⟩ | ⟨k, _, cur, rfl, _, q1, _⟩
  · cases hb
  · simp only [Value.ownBlock, Option.some.injEq] at hb
    subst hb
    rw [hg] at q1
    simp only [Option.some.injEq, Obj.cells.injEq] at q1
    exact hne q1.2.1.symm
theorem ap_typeO {w : World} {b1 b2 s1 s2 n1 n2 : Nat} {e1 e2 : TypeId} {v1 v2 : Value} {c1 c2 : List Value} (h1 : w.ownsRow b1 e1 s1 v1 n1 c1) (h2 : w.ownsRow b2 e2 s2 v2 n2 c2) (he : e1 ≠ e2) : Ap v1 v2 := by
  intro g hg hg2
  rcases h1.2 with ⟨rfl, _⟩ | ⟨k1, _, _, rfl, _, q1, _⟩
  · cases hg
  · rcases h2.2 with ⟨rfl, _⟩ | ⟨k2, _, _, rfl, _, q2, _⟩
    · cases hg2
    · simp only [Value.ownBlock, Option.some.injEq] at hg hg2
      subst hg hg2
      rw [q1] at q2
      simp only [Option.some.injEq, Obj.cells.injEq] at q2
      exact he q2.2.1
section
variable {w w' : World} {B k r T cT n cw M gd ga N L cl : Nat} {aT aw al : Option Addr} {gr : Nat → Nat} {D : Nat → Nat → Bool} {more : Bool}
theorem DState.heap (h : DState w B k r aT T cT aw n cw M gd ga N gr D al L cl more) (hd : w'.heap[gd]? = w.heap[gd]?) (ha : w'.heap[ga]? = w.heap[ga]?) (hr : ∀ i, i < n → w'.heap[gr i]? = w.heap[gr i]?) (hl : ∀ b, (Value.slice al L cl).ownBlock = some b → w'.heap[b]? = w.heap[b]?) : DState w' B k r aT T cT aw n cw M gd ga N gr D al L cl more := by
  refine ⟨hd.trans h.ds, ha.trans h.at_, fun i hi => (hr i hi).trans (h.rw_ i hi), ?_⟩
  obtain ⟨ls, ho⟩ := h.li
  exact ⟨ls, own_of_heap ho hl⟩
theorem DState.up (h : DState w B k r aT T cT aw n cw M gd ga N gr D al L cl more) (hb : Below w.heap.size w w') : DState w' B k r aT T cT aw n cw M gd ga N gr D al L cl more := by
  obtain ⟨ls, ho⟩ := h.li
  exact h.heap (hb.block _ (heap_ltO h.ds)) (hb.block _ (heap_ltO h.at_)) (fun i hi => hb.block _ (heap_ltO (h.rw_ i hi))) fun b hb2 => hb.block _ (ho.lt b hb2).2
theorem DState.drew (h : DState w B k r aT T cT aw n cw M gd ga N gr D al L cl more) : DState w.drew B k r aT T cT aw n cw M gd ga N gr D al L cl more := h.up (bnil w).drew
theorem XOwn.up {ax : Option Addr} {nx cx : Nat} (h : XOwn w B ax nx cx) (hb : Below w.heap.size w w') : XOwn w' B ax nx cx := by
  obtain ⟨cs, ho⟩ := h
  exact ⟨cs, owns_up ho hb⟩
/-- numbers lie apart from the search's parts -/
theorem XOwn.apart {ax : Option Addr} {nx cx : Nat} (hx : XOwn w B ax nx cx) (h : DState w B k r aT T cT aw n cw M gd ga N gr D al L cl more) :
    (Value.slice ax nx cx).ownBlock ≠ some gd ∧ (Value.slice ax nx cx).ownBlock ≠ some ga ∧ (∀ i, i < n → (Value.slice ax nx cx).ownBlock ≠ some (gr i)) ∧ ∀ b, (Value.slice al L cl).ownBlock = some b → (Value.slice ax nx cx).ownBlock ≠ some b := by
  obtain ⟨cs, ho⟩ := hx
  obtain ⟨ls, hl⟩ := h.li
  refine ⟨own_ne ho h.ds (by decide), own_ne ho h.at_ (by decide), fun i hi => own_ne ho (h.rw_ i hi) (by decide), fun b hb hb2 => ?_⟩
  exact ap_typeO ho hl (by decide) b hb2 hb
end

/-- what a call of the search may turn: its own parts, the list's block, the block of the symbols so far -/
structure DKeep (B gd n : Nat) (gr : Nat → Nat) (W w' : World) (vl vx vl' : Value) : Prop where
  size : W.heap.size ≤ w'.heap.size
  below : Below B W w'
  fr : ∀ b, b < W.heap.size → b ≠ gd → (∀ i, i < n → b ≠ gr i) → vl.ownBlock ≠ some b → vx.ownBlock ≠ some b → w'.heap[b]? = W.heap[b]?
  lb : ∀ b, b < W.heap.size → vl'.ownBlock = some b → vl.ownBlock = some b
theorem DKeep.refl (B gd n : Nat) (gr : Nat → Nat) (W : World) (vl vx : Value) : DKeep B gd n gr W W vl vx vl := ⟨Nat.le_refl _, Below.refl _ _, fun _ _ _ _ _ _ => rfl, fun _ _ h => h⟩
theorem DKeep.up {B gd n : Nat} {gr : Nat → Nat} {W w w' : World} {vl vx vl' : Value} (h : DKeep B gd n gr W w vl vx vl') (hB : B ≤ W.heap.size) (hb : Below w.heap.size w w') : DKeep B gd n gr W w' vl vx vl' :=
  ⟨Nat.le_trans h.size hb.size, h.below.trans (hb.mono (Nat.le_trans hB h.size)), fun b h1 h2 h3 h4 h5 => (hb.block b (Nat.lt_of_lt_of_le h1 h.size)).trans (h.fr b h1 h2 h3 h4 h5), h.lb⟩
/-- behind an append onto the symbols, and a call with what it gives -/
theorem DKeep.call {B gd n m nx : Nat} {gr : Nat → Nat} {W w w1 w2 w3 : World} {vl vx vl' vx' vl2 : Value} (h : DKeep B gd n gr W w vl vx vl') (hB : B ≤ W.heap.size) (hs1 : w.heap.size ≤ w1.heap.size) (hb1 : Below B w w1) (hr : InRoom w w1 vx vx' nx m) (hb2 : Below w1.heap.size w1 w2) (h3 : DKeep B gd n gr w2 w3 vl' vx' vl2) : DKeep B gd n gr W w3 vl vx vl2 := by
  have hs2 := hb2.size
  refine ⟨Nat.le_trans (Nat.le_trans h.size hs1) (Nat.le_trans hs2 h3.size), (h.below.trans hb1).trans ((hb2.mono (Nat.le_trans hB (Nat.le_trans h.size hs1))).trans h3.below), fun b q1 q2 q3 q4 q5 => ?_, fun b q1 q2 => ?_⟩
  · have p1 : b < w.heap.size := Nat.lt_of_lt_of_le q1 h.size
    have p2 : b < w2.heap.size := Nat.lt_of_lt_of_le p1 (Nat.le_trans hs1 hs2)
    have e1 := h.fr b q1 q2 q3 q4 q5
    have e2 : w1.heap[b]? = w.heap[b]? := by
      rcases hr with ⟨g, c, rfl, _, _, hh⟩ | ⟨g, c, _, _, hh⟩
      · exact hh b p1 fun e => q5 (by rw [e]; rfl)
      · exact hh b p1
    have e3 := hb2.block b (Nat.lt_of_lt_of_le p1 hs1)
    have e4 : w3.heap[b]? = w2.heap[b]? := h3.fr b p2 q2 q3 (fun e => q4 (h.lb b q1 e)) fun e => by
      rcases hr with ⟨g, c, rfl, _, rfl, _⟩ | ⟨g, c, rfl, hg, _⟩
      · exact q5 e
      · simp only [Value.ownBlock, Option.some.injEq] at e; omega
    rw [e4, e3, e2, e1]
  · exact h.lb b q1 (h3.lb b (Nat.lt_of_lt_of_le q1 (Nat.le_trans h.size (Nat.le_trans hs1 hs2))) q2)
/-- the symbols' row is owned again behind the call -/
theorem XOwn.back {B k r T cT n cw M gd ga N L cl nx cx m : Nat} {aT aw al ax : Option Addr} {gr : Nat → Nat} {D : Nat → Nat → Bool} {more : Bool} {w w1 w2 w3 : World} {vx' vl2 : Value} (hx : XOwn w B ax nx cx) (hd : DState w B k r aT T cT aw n cw M gd ga N gr D al L cl more) (hs1 : w.heap.size ≤ w1.heap.size) (hr : InRoom w w1 (.slice ax nx cx) vx' nx m) (hb2 : Below w1.heap.size w1 w2) (h3 : DKeep B gd n gr w2 w3 (.slice al L cl) vx' vl2)
    (hx3 : ∃ ax' cx', vx' = .slice ax' (nx + m) cx' ∧ XOwn w3 B ax' (nx + m) cx') : XOwn w3 B ax nx cx := by
  obtain ⟨ax', cx', rfl, cs', ho'⟩ := hx3
  rcases hr with ⟨g, c, e1, h1, e2, _⟩ | ⟨g, c, e1, hg, hh⟩
  · simp only [Value.slice.injEq] at e1 e2
    obtain ⟨rfl, _, rfl⟩ := e1
    obtain ⟨rfl, _, rfl⟩ := e2
    have q := own_prefix ho' (Nat.le_add_right nx m)
    rw [← List.map_take] at q
    exact ⟨_, q⟩
  · simp only [Value.slice.injEq] at e1
    obtain ⟨rfl, _, rfl⟩ := e1
    have hap := hx.apart hd
    obtain ⟨cs, ho⟩ := hx
    refine ⟨cs, own_of_heap ho fun b hb => ?_⟩
    have hlt := (ho.lt b hb).2
    have e3 := hh b hlt
    have e4 := hb2.block b (Nat.lt_of_lt_of_le hlt hs1)
    have e5 := h3.fr b (Nat.lt_of_lt_of_le hlt (Nat.le_trans hs1 hb2.size)) (fun e => hap.1 (by rw [hb, e])) (fun i hi e => hap.2.2.1 i hi (by rw [hb, e])) (fun e => hap.2.2.2 b e hb) (fun e => by simp only [Value.ownBlock, Option.some.injEq] at e; omega)
    rw [e5, e4, e3]
/-- the state behind an append onto the symbols -/
theorem DState.room {B k r T cT n cw M gd ga N L cl nx cx m : Nat} {aT aw al ax : Option Addr} {gr : Nat → Nat} {D : Nat → Nat → Bool} {more : Bool} {w w1 : World} {vx' : Value} (hd : DState w B k r aT T cT aw n cw M gd ga N gr D al L cl more) (hx : XOwn w B ax nx cx) (hr : InRoom w w1 (.slice ax nx cx) vx' nx m) : DState w1 B k r aT T cT aw n cw M gd ga N gr D al L cl more := by
  have hap := hx.apart hd
  have hk : ∀ b, b < w.heap.size → (Value.slice ax nx cx).ownBlock ≠ some b → w1.heap[b]? = w.heap[b]? := fun b hb hne => by
    rcases hr with ⟨g, c, e1, _, _, hh⟩ | ⟨g, c, _, _, hh⟩
    · exact hh b hb fun e => hne (by rw [e1, e]; rfl)
    · exact hh b hb
  obtain ⟨ls, hl⟩ := hd.li
  exact hd.heap (hk _ (heap_ltO hd.ds) hap.1) (hk _ (heap_ltO hd.at_) hap.2.1) (fun i hi => hk _ (heap_ltO (hd.rw_ i hi)) (hap.2.2.1 i hi)) fun b hb => hk b (hl.lt b hb).2 (hap.2.2.2 b hb)
theorem DState.cells {w : World} {B k r T cT n cw M gd ga N L cl : Nat} {aT aw al : Option Addr} {gr : Nat → Nat} {D : Nat → Nat → Bool} {more : Bool} (h : DState w B k r aT T cT aw n cw M gd ga N gr D al L cl more) :
    w.cell? ⟨gd, 0, none⟩ = some (.int .i64 k) ∧ w.cell? ⟨gd, 1, none⟩ = some (.int .i64 r) ∧ w.cell? ⟨gd, 2, none⟩ = some (.slice aT T cT) ∧ w.cell? ⟨gd, 3, none⟩ = some (.slice aw n cw) ∧ w.cell? ⟨gd, 4, none⟩ = some (.slice (some ⟨ga, 0, none⟩) n n) ∧ w.cell? ⟨gd, 5, none⟩ = some (.int .i64 M) ∧ w.cell? ⟨gd, 6, none⟩ = some (.slice al L cl) ∧ w.cell? ⟨gd, 7, none⟩ = some (.bool more) ∧ ∀ j, w.frozen? ⟨gd, j, none⟩ = false := by
  have hd := h.ds
  simp [World.cell?, World.frozen?, hd]
theorem DState.row {w : World} {B k r T cT n cw M gd ga N L cl : Nat} {aT aw al : Option Addr} {gr : Nat → Nat} {D : Nat → Nat → Bool} {more : Bool} (h : DState w B k r aT T cT aw n cw M gd ga N gr D al L cl more) {i u : Nat} (hi : i < n) (hu : u < N) :
    w.cell? ⟨ga, i, none⟩ = some (.slice (some ⟨gr i, 0, none⟩) N N) ∧ w.cell? ⟨gr i, u, none⟩ = some (.bool (D i u)) ∧ w.frozen? ⟨gr i, u, none⟩ = false := by
  refine ⟨?_, ?_, ?_⟩
  · rw [cell_of_row w ga i _ _ _ h.at_]; simpa using rwv_at N gr hi
  · rw [cell_of_row w (gr i) u _ _ _ (h.rw_ i hi)]; simpa using blv_at (D i) hu
  · have := h.rw_ i hi
    simp [World.frozen?, this]
/-- a mark set -/
theorem DState.mark {w : World} {B k r T cT n cw M gd ga N L cl : Nat} {aT aw al : Option Addr} {gr : Nat → Nat} {D : Nat → Nat → Bool} {more : Bool} (h : DState w B k r aT T cT aw n cw M gd ga N gr D al L cl more) (hl : DLay B gd ga n gr) {i u : Nat} (hi : i < n) (hu : u < N) (b : Bool) :
    DState (w.setCell ⟨gr i, u, none⟩ (.bool b)) B k r aT T cT aw n cw M gd ga N gr (fun j v => if j = i ∧ v = u then b else D j v) al L cl more := by
  have hri := h.rw_ i hi
  have hne : ∀ b2 o, w.heap[b2]? = some o → (∀ xs, o ≠ Obj.cells xs 4) → b2 ≠ gr i := fun b2 o h2 h3 e => by
    subst e; rw [hri] at h2; exact h3 _ (Option.some.inj h2).symm
  have k1 : gd ≠ gr i := hne _ _ h.ds fun xs e => by simp at e
  have k2 : ga ≠ gr i := hne _ _ h.at_ fun xs e => by simp at e
  refine ⟨by rw [Below.heap_setCell _ _ _ _ k1]; exact h.ds, by rw [Below.heap_setCell _ _ _ _ k2]; exact h.at_, fun j hj => ?_, ?_⟩
  · by_cases e : j = i
    · subst e
      have e2 : blv N (fun v => if j = j ∧ v = u then b else D j v) = (blv N (D j)).set u (.bool b) := by
        rw [blv_set (D j) b hu]; simp
      show _ = some (Obj.cells (blv N (fun v => if j = j ∧ v = u then b else D j v)).toArray 4)
      rw [e2]
      simp [World.setCell, Array.getElem?_modify, hri]
    · have k3 : gr j ≠ gr i := fun q => e (hl.inj j i hj hi q)
      have e2 : (fun v => if j = i ∧ v = u then b else D j v) = D j := funext fun v => if_neg fun q => e q.1
      show _ = some (Obj.cells (blv N (fun v => if j = i ∧ v = u then b else D j v)).toArray 4)
      rw [Below.heap_setCell _ _ _ _ k3, e2]
      exact h.rw_ j hj
  · obtain ⟨ls, ho⟩ := h.li
    refine ⟨ls, own_of_heap ho fun b2 hb2 => Below.heap_setCell _ _ _ _ fun e => ?_⟩
    exact own_ne ho hri (by decide) (by rw [hb2, e])
theorem set_dead {w : World} {gd : Nat} {x0 x1 x2 x3 x4 x5 x6 x7 : Value} {t : TypeId} {fr : Nat × Nat} (h : w.heap[gd]? = some (.cells #[x0, x1, x2, x3, x4, x5, x6, x7] t fr)) (v : Value) :
    (w.setCell ⟨gd, 6, none⟩ v).heap[gd]? = some (.cells #[x0, x1, x2, x3, x4, x5, v, x7] t fr) ∧ (w.setCell ⟨gd, 7, none⟩ v).heap[gd]? = some (.cells #[x0, x1, x2, x3, x4, x5, x6, v] t fr) := by
  simp [World.setCell, Array.getElem?_modify, h]
/-- more are told -/
theorem DState.told {w : World} {B k r T cT n cw M gd ga N L cl : Nat} {aT aw al : Option Addr} {gr : Nat → Nat} {D : Nat → Nat → Bool} {more : Bool} (h : DState w B k r aT T cT aw n cw M gd ga N gr D al L cl more) :
    DState (w.setCell ⟨gd, 7, none⟩ (.bool true)) B k r aT T cT aw n cw M gd ga N gr D al L cl true := by
  have hne : ∀ b2 o, w.heap[b2]? = some o → (∀ xs, o ≠ Obj.cells xs 105) → b2 ≠ gd := fun b2 o h2 h3 e => by
    subst e; rw [h.ds] at h2; exact h3 _ (Option.some.inj h2).symm
  refine ⟨(set_dead h.ds _).2, ?_, fun i hi => ?_, ?_⟩
  · rw [Below.heap_setCell _ _ _ _ (hne _ _ h.at_ fun xs e => by simp at e)]; exact h.at_
  · rw [Below.heap_setCell _ _ _ _ (hne _ _ (h.rw_ i hi) fun xs e => by simp at e)]; exact h.rw_ i hi
  · obtain ⟨ls, ho⟩ := h.li
    exact ⟨ls, own_of_heap ho fun b2 hb2 => Below.heap_setCell _ _ _ _ fun e => own_ne ho h.ds (by decide) (by rw [hb2, e])⟩
/-- one more in the list -/
theorem DState.more {w w' : World} {B k r T cT n cw M gd ga N L cl : Nat} {aT aw al : Option Addr} {gr : Nat → Nat} {D : Nat → Nat → Bool} {m : Bool} (h : DState w B k r aT T cT aw n cw M gd ga N gr D al L cl m) {a5 : Option Addr} {c5 : Nat} {ls : List Value} (hr : InRoom w w' (.slice al L cl) (.slice a5 (L + 1) c5) L 1) (ho : w'.ownsRow B 22 1 (.slice a5 (L + 1) c5) (L + 1) ls) :
    DState (w'.setCell ⟨gd, 6, none⟩ (.slice a5 (L + 1) c5)) B k r aT T cT aw n cw M gd ga N gr D a5 (L + 1) c5 m := by
  obtain ⟨l0, hl0⟩ := h.li
  have hk : ∀ b t (xs : Array Value), w.heap[b]? = some (Obj.cells xs t) → 22 ≠ t → w'.heap[b]? = w.heap[b]? := fun b t xs hb ht => by
    rcases hr with ⟨g, c, e1, _, _, hh⟩ | ⟨g, c, _, _, hh⟩
    · exact hh b (heap_ltO hb) fun e => own_ne hl0 hb ht (by rw [e1, e]; rfl)
    · exact hh b (heap_ltO hb)
  have hds := (hk gd _ _ h.ds (by decide)).trans h.ds
  have hat := (hk ga _ _ h.at_ (by decide)).trans h.at_
  have hrw := fun i hi => (hk (gr i) _ _ (h.rw_ i hi) (by decide)).trans (h.rw_ i hi)
  have hne : ∀ b2 o, w'.heap[b2]? = some o → (∀ xs, o ≠ Obj.cells xs 105) → b2 ≠ gd := fun b2 o h2 h3 e => by
    subst e; rw [hds] at h2; exact h3 _ (Option.some.inj h2).symm
  refine ⟨(set_dead hds _).1, ?_, fun i hi => ?_, ⟨ls, own_of_heap ho fun b2 hb2 => Below.heap_setCell _ _ _ _ fun e => own_ne ho hds (by decide) (by rw [hb2, e])⟩⟩
  · rw [Below.heap_setCell _ _ _ _ (hne _ _ hat fun xs e => by simp at e)]; exact hat
  · rw [Below.heap_setCell _ _ _ _ (hne _ _ (hrw i hi) fun xs e => by simp at e)]; exact hrw i hi
theorem XOwn.set {w : World} {B g j nx cx : Nat} {ax : Option Addr} {xs : Array Value} {t : TypeId} (h : XOwn w B ax nx cx) (hg : w.heap[g]? = some (.cells xs t)) (ht : 3 ≠ t) (v : Value) : XOwn (w.setCell ⟨g, j, none⟩ v) B ax nx cx := by
  obtain ⟨l, ho⟩ := h
  exact ⟨l, own_of_heap ho fun b2 hb2 => Below.heap_setCell _ _ _ _ fun e => own_ne ho hg ht (by rw [hb2, e])⟩
theorem DKeep.set {B gd n g j : Nat} {gr : Nat → Nat} {W w : World} {vl vx vl' : Value} (h : DKeep B gd n gr W w vl vx vl') (hg : B ≤ g) (hq : g = gd ∨ ∃ i, i < n ∧ g = gr i) (v : Value) : DKeep B gd n gr W (w.setCell ⟨g, j, none⟩ v) vl vx vl' := by
  refine ⟨by simpa [World.setCell] using h.size, h.below.setCell (p := ⟨g, j, none⟩) hg v, fun b h1 h2 h3 h4 h5 => ?_, h.lb⟩
  rw [Below.heap_setCell _ _ _ _ (by
    rcases hq with rfl | ⟨i, hi, rfl⟩
    · exact h2
    · exact h3 i hi)]
  exact h.fr b h1 h2 h3 h4 h5
/-- behind an append onto the list -/
theorem DKeep.list {B gd n L : Nat} {gr : Nat → Nat} {W w w1 : World} {vl vx vl' : Value} (hB : B ≤ W.heap.size) (hb : Below W.heap.size W w) (hs : w.heap.size ≤ w1.heap.size) (hb1 : Below B w w1) (hr : InRoom w w1 vl vl' L 1) : DKeep B gd n gr W w1 vl vx vl' := by
  refine ⟨Nat.le_trans hb.size hs, (hb.mono hB).trans hb1, fun b h1 h2 h3 h4 h5 => ?_, fun b h1 h2 => ?_⟩
  · have h6 := hb.block b h1
    rcases hr with ⟨g, c, rfl, _, _, hh⟩ | ⟨g, c, _, _, hh⟩
    · rw [hh b (Nat.lt_of_lt_of_le h1 hb.size) fun e => h4 (by rw [e]; rfl)]; exact h6
    · rw [hh b (Nat.lt_of_lt_of_le h1 hb.size)]; exact h6
  · rcases hr with ⟨g, c, rfl, _, rfl, _⟩ | ⟨g, c, rfl, hg, _⟩
    · exact h2
    · simp only [Value.ownBlock, Option.some.injEq] at h2
      have := hb.size
      omega
end Go.Proofs.YteneiianpghalaaDoor
