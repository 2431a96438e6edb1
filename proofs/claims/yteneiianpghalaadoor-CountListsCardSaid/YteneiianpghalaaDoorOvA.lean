/- append onto a row of the call's own: in its room, or into a new block. -/
import Derived.Test.YteneiianpghalaaDoorBase
import Derived.Laws.OwnMore
namespace Go.Proofs.YteneiianpghalaaDoor
open Go.RowKit
set_option linter.unusedVariables false
set_option maxRecDepth 100000

/-- in its room, the same block; or a new block, and all old ones as they were -/
def InRoom (w w' : World) (v v' : Value) (n m : Nat) : Prop :=
  (∃ g c, v = .slice (some ⟨g, 0, none⟩) n c ∧ n + m ≤ c ∧ v' = .slice (some ⟨g, 0, none⟩) (n + m) c ∧ ∀ k, k < w.heap.size → k ≠ g → w'.heap[k]? = w.heap[k]?) ∨
  (∃ g c, v' = .slice (some ⟨g, 0, none⟩) (n + m) c ∧ w.heap.size ≤ g ∧ ∀ k, k < w.heap.size → w'.heap[k]? = w.heap[k]?)
theorem append_two {P : Program} {w : World} {t ty e : TypeId} (base : Nat) {z : Value} {size bytes : Nat} (T : ET P t e z size bytes)
    (v : Value) (n : Nat) (xs : List Value) (hown : w.ownsRow base e size v n xs)
    (a : Addr) (m c : Nat) (hm : 0 < m) (news : List Value) (hl : news.length = m * size) (hnews : ∀ j u, news[j]? = some u → w.cell? (a.add j) = some u) (h1 : ∀ u ∈ news, u.oneCell' = true)
    (b1 : n + m ≤ maxLen) (b2 : (n + m) * bytes ≤ 140737488355328) (b4 : base ≤ w.heap.size) :
    ∃ v' w', (Builtin.append_ #[t, t] ty #[v, .slice (some a) m c]).run P w = .ok v' w' ∧ w'.ownsRow base e size v' (n + m) (xs ++ news) ∧ w.heap.size ≤ w'.heap.size ∧ Below base w w' ∧ InRoom w w' v v' n m := by
  obtain ⟨i, hi, hz, h4, h5⟩ := T.hi
  have ht := T.ht
  have hzs := T.hzs
  have hsz := T.hsz
  subst h4 h5
  have hlt0 := hown.lt
  have hsmall : n + m ≤ 9223372036854775807 := by simp only [maxLen] at b1; omega
  have hlen : (xs ++ news).length = (n + m) * i.size := by rw [List.length_append, hown.1, hl, Nat.add_mul]
  have grown : ∀ (old : Nat), old < n + m →
      (w.drew.alloc (.cells (xs.toArray ++ news.toArray ++ Builtin.zeroCells z.cells (grownCap w (n + m) old e - (n + m))) e)).ownsRow base e i.size (.slice (some ⟨w.heap.size, 0, none⟩) (n + m) (grownCap w (n + m) old e)) (n + m) (xs ++ news) ∧ w.heap.size ≤ (w.drew.alloc (.cells (xs.toArray ++ news.toArray ++ Builtin.zeroCells z.cells (grownCap w (n + m) old e - (n + m))) e)).heap.size ∧ Below base w (w.drew.alloc (.cells (xs.toArray ++ news.toArray ++ Builtin.zeroCells z.cells (grownCap w (n + m) old e - (n + m))) e)) ∧ InRoom w (w.drew.alloc (.cells (xs.toArray ++ news.toArray ++ Builtin.zeroCells z.cells (grownCap w (n + m) old e - (n + m))) e)) v (.slice (some ⟨w.heap.size, 0, none⟩) (n + m) (grownCap w (n + m) old e)) n m := by
    intro old ho
    have hge := grownCap_ge w (n + m) old e
    have hcm : grownCap w (n + m) old e ≤ maxLen := grownCap_le_maxLen w (n + m) old e b1
    have hg0 : ∀ row, w.grownBy (w.drew.alloc (.cells (xs.toArray ++ news.toArray ++ Builtin.zeroCells z.cells (grownCap w (n + m) old e - (n + m))) e)) row :=
      fun row => ⟨rfl, rfl, rfl, by simp, fun k hk _ => Below.heap_alloc w.drew _ k hk⟩
    refine ⟨⟨hlen, .inr ⟨w.heap.size, _, _, rfl, b4, heap_alloc_new w.drew _, hge, hcm, ?_, ?_⟩⟩, (hg0 none).size, below_of_grown (hg0 v.ownBlock) rfl hlt0 b4, .inr ⟨w.heap.size, _, rfl, Nat.le_refl _, fun k hk => (hg0 none).block k hk (by simp)⟩⟩
    · simp only [Array.size_append, List.size_toArray, size_zeroCells, hzs, hown.1, hl, ← Nat.add_mul]
      congr 1
      omega
    · simp only [Array.toList_append, List.append_assoc]
      rw [← List.append_assoc, ← hlen]
      exact List.take_left
  rcases hown.2 with ⟨rfl, rfl⟩ | ⟨g, cap, cur, rfl, hbg, hg, hnc, hcm, hcs, htake⟩
  · have hx : xs = [] := List.eq_nil_of_length_eq_zero (by simpa using hown.1)
    subst hx
    have hr := run_append_nil (P := P) w t ty e i z ht hi hz a m c news hl hnews (by omega) (by omega) (by have hb := b2; simp only [Nat.zero_add] at hb; omega)
    have hgr := grown 0 (by omega)
    simp only [Nat.zero_add, Array.empty_append] at hgr ⊢
    exact ⟨_, _, hr, hgr⟩
  · by_cases hroom : n + m ≤ cap
    · have hfit : n * i.size + news.length ≤ cur.size := by rw [hl, hcs, ← Nat.add_mul]; exact Nat.mul_le_mul_right _ hroom
      have hr := run_append_room (P := P) w t ty e i ht hi g n cap cur hg a m c news hl hnews h1 hroom hfit
      have hg0 : w.grownBy (w.setRow g (cur.toList.take (n * i.size) ++ news ++ cur.toList.drop (n * i.size + news.length)).toArray) (some g) :=
        ⟨rfl, rfl, rfl, by simp, fun k _ hk => setRow_other w g k _ (fun e => hk (by simp [e]))⟩
      refine ⟨_, _, hr, ⟨hlen, .inr ⟨g, cap, _, rfl, hbg, setRow_heap w g cur _ e _ hg, hroom, hcm, ?_, ?_⟩⟩, hg0.size, below_of_grown hg0 rfl hlt0 b4, .inl ⟨g, cap, rfl, hroom, rfl, fun k _ hk => setRow_other w g k _ hk⟩⟩
      · simp only [List.size_toArray, List.length_append, List.length_take, List.length_drop, Array.length_toList]
        omega
      · rw [htake, ← hlen]
        exact List.take_left
    · have holds : ∀ j u, xs[j]? = some u → w.cell? ((⟨g, 0, none⟩ : Addr).add j) = some u := hown.cells (g := g) rfl
      have hr := run_append_grow (P := P) w t ty e i z ht hi hz ⟨g, 0, none⟩ n cap xs hown.1 holds a m c news hl hnews (by omega) (by omega) (growslice_fits (by omega) b2)
      exact ⟨_, _, hr, grown cap (by omega)⟩
section
variable {P : Program} {ops : Array Oper} {rest : List Oper} {o : Oper} {a : Act} {Q : Exit → Act → World → Prop}
/-- append(s, x1, .., xm) as the step of a region that draws its order, in whatever world in which the row is owned and the literal lies -/
theorem step_app_two {w : World} {K : Act → World → Prop} {E : Prop} (hw : Region.wanted o (yielded ops a.tmps) = true) (s x : Operand) (t : TypeId) (hop : o.op = .call { callee := .builtin .append, args := #[s, x], argTypes := #[t, t] })
    (base : Nat) {e : TypeId} {z : Value} {size bytes : Nat} (T : ET P t e z size bytes)
    (v : Value) (n : Nat) (xs : List Value) (hown : w.ownsRow base e size v n xs) (hs : a.eval s = v)
    (m g : Nat) (news : List Value) (hm : 0 < m) (hx : a.eval x = .slice (some ⟨g, 0, none⟩) m m) (hl : news.length = m * size) (hnews : ∀ j u, news[j]? = some u → w.cell? ⟨g, j, none⟩ = some u) (h1 : ∀ u ∈ news, u.oneCell' = true)
    (b1 : n + m ≤ maxLen) (b2 : (n + m) * bytes ≤ 140737488355328) (b4 : base ≤ w.heap.size)
    (hK : ∀ a' c' w', w'.ownsRow base e size (.slice a' (n + m) c') (n + m) (xs ++ news) → w.heap.size ≤ w'.heap.size → Below base w w' → InRoom w w' v (.slice a' (n + m) c') n m → K (a.put o.dst (.slice a' (n + m) c')) w') :
    if Region.wanted o (yielded ops a.tmps) = true then Oper.wp P o a w K Q else E := by
  rw [if_pos hw]
  obtain ⟨v', w', hrun, ho, hs2, hb, hr⟩ := append_two (P := P) (ty := o.type) base T v n xs hown ⟨g, 0, none⟩ m m hm news hl (by
    intro j u hu
    rw [Addr.add_lit, Nat.zero_add]
    exact hnews j u hu) h1 b1 b2 b4
  obtain ⟨a', c', rfl, _, _⟩ := owns_slice ho
  unfold Oper.wp
  simp [execOp, hop, resolve, invoke, builtin, hs, hx, hrun, Result.andThen]
  exact hK _ _ _ ho hs2 hb hr
end
end Go.Proofs.YteneiianpghalaaDoor
