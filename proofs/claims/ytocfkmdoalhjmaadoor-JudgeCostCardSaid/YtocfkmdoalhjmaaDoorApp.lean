/- append onto a row of the call's own: what becomes of the memory. -/
import Derived.Test.YtocfkmdoalhjmaaDoorArm
import Derived.WalkKit
namespace Go.Proofs.YtocfkmdoalhjmaaDoor
open Go.RowKit

/-- What append leaves: the new value owns the row; blocks other than the old value's are as they were; in the old value's block what stood ahead is as it was. -/
structure Appended (base : Nat) (e : TypeId) (size : Nat) (w w' : World) (v v' : Value) (n m : Nat) (xs news : List Value) : Prop where
  own : w'.ownsRow base e size v' (n + m) (xs ++ news)
  row : w.grownBy w' v.ownBlock
  below : Below base w w'
  grew : w.heap.size ≤ w'.heap.size
  at_ : v'.ownBlock = v.ownBlock ∨ ∃ g, v'.ownBlock = some g ∧ w.heap.size ≤ g
  cell : ∀ a : Addr, a.block < w.heap.size → (v.ownBlock = some a.block → a.off < n * size) → w'.cell? a = w.cell? a

theorem run_append_law {P : Program} {w : World} {t ty e : TypeId} (base : Nat) {z : Value} {size bytes : Nat} (T : ET P t e z size bytes)
    (v : Value) (n : Nat) (xs : List Value) (hown : w.ownsRow base e size v n xs)
    (ad : Option Addr) (m c : Nat) (news : List Value) (hnil : ad = none → c = 0) (hR : Rd w ad m size news) (h1 : ∀ u ∈ news, u.oneCell' = true)
    (b1 : n + m ≤ maxLen) (b2 : (n + m) * bytes ≤ 140737488355328) (b4 : base ≤ w.heap.size) :
    ∃ v' w', (Builtin.append_ #[t, t] ty #[v, .slice ad m c]).run P w = .ok v' w' ∧ Appended base e size w w' v v' n m xs news := by
  obtain ⟨i, hi, hz, h4, h5⟩ := T.hi
  have ht := T.ht
  have hzs := T.hzs
  have hsz := T.hsz
  subst h4 h5
  have hlt0 := hown.lt
  have hsmall : n + m ≤ 9223372036854775807 := by simp only [maxLen] at b1; omega
  have hl : news.length = m * i.size := hR.1
  have hlen : (xs ++ news).length = (n + m) * i.size := by rw [List.length_append, hown.1, hl, Nat.add_mul]
  have refl_ : Appended base e i.size w w v v n 0 xs [] :=
    ⟨by simpa using hown, World.grownBy.refl _ _, Below.refl _ _, Nat.le_refl _, .inl rfl, fun _ _ _ => rfl⟩
  have grown : ∀ (old : Nat), old < n + m →
      Appended base e i.size w (w.drew.alloc (.cells (xs.toArray ++ news.toArray ++ Builtin.zeroCells z.cells (grownCap w (n + m) old e - (n + m))) e)) v
        (.slice (some ⟨w.heap.size, 0, none⟩) (n + m) (grownCap w (n + m) old e)) n m xs news := by
    intro old ho
    have hge := grownCap_ge w (n + m) old e
    have hcm : grownCap w (n + m) old e ≤ maxLen := grownCap_le_maxLen w (n + m) old e b1
    have hg0 : ∀ row, w.grownBy (w.drew.alloc (.cells (xs.toArray ++ news.toArray ++ Builtin.zeroCells z.cells (grownCap w (n + m) old e - (n + m))) e)) row :=
      fun row => ⟨rfl, rfl, rfl, by simp, fun k hk _ => Below.heap_alloc w.drew _ k hk⟩
    refine ⟨⟨hlen, .inr ⟨w.heap.size, _, _, rfl, b4, heap_alloc_new w.drew _, hge, hcm, ?_, ?_⟩⟩, hg0 _, below_of_grown (hg0 _) rfl hlt0 b4, (hg0 none).size, .inr ⟨w.heap.size, rfl, Nat.le_refl _⟩, fun a ha _ => ?_⟩
    · simp only [Array.size_append, List.size_toArray, size_zeroCells, hzs, hown.1, hl, ← Nat.add_mul]
      congr 1
      omega
    · simp only [Array.toList_append, List.append_assoc]
      rw [← List.append_assoc, ← hlen]
      exact List.take_left
    · exact World.cell?_of_block ((hg0 none).block a.block ha (by simp))
  by_cases hm : m = 0 ∧ ad = none
  · obtain ⟨rfl, rfl⟩ := hm
    have hn0 : news = [] := List.eq_nil_of_length_eq_zero (by simpa using hl)
    subst hn0
    have hc0 := hnil rfl
    subst hc0
    refine ⟨v, w, ?_, refl_⟩
    rcases hown.2 with ⟨rfl, _⟩ | ⟨g, cap, cur, rfl, _, _, hle, _, _, _⟩
    · simp [Builtin.append_, run_underlying ht, sizeOf, typeInfo, hi, Builtin.lenOf, Builtin.firstCells]
    · exact run_append_owned_none (P := P) w base t ty e i i.size ht hi _ n xs hown
  · obtain ⟨a, rfl⟩ : ∃ a, ad = some a := by
      cases ad with
      | some a => exact ⟨a, rfl⟩
      | none =>
        rcases hR.2 with h0 | ⟨_, _, h, _⟩
        · exact absurd ⟨h0, rfl⟩ hm
        · cases h
    have hnews : ∀ j u, news[j]? = some u → w.cell? (a.add j) = some u := by
      intro j u hu
      rcases hR.2 with h0 | ⟨b, o, h, _, hc⟩
      · subst h0
        have hn0 : news = [] := List.eq_nil_of_length_eq_zero (by simpa using hl)
        subst hn0
        simp at hu
      · cases h
        rw [Addr.add_lit]
        exact hc j u hu
    rcases hown.2 with ⟨rfl, rfl⟩ | ⟨g, cap, cur, rfl, hbg, hg, hnc, hcm, hcs, htake⟩
    · have hx : xs = [] := List.eq_nil_of_length_eq_zero (by simpa using hown.1)
      subst hx
      by_cases hm0 : m = 0
      · subst hm0
        have hn0 : news = [] := List.eq_nil_of_length_eq_zero (by simpa using hl)
        subst hn0
        refine ⟨.slice none 0 0, w, ?_, refl_⟩
        simp [Builtin.append_, run_underlying ht, sizeOf, typeInfo, hi, Builtin.lenOf, Builtin.firstCells, loadCells, loadCellsFrom]
      · have hr := run_append_nil (P := P) w t ty e i z ht hi hz a m c news hl hnews (by omega) (by omega) (by have hb := b2; simp only [Nat.zero_add] at hb; omega)
        have hgr := grown 0 (by omega)
        simp only [Nat.zero_add, Array.empty_append] at hgr ⊢
        exact ⟨_, _, hr, hgr⟩
    · by_cases hroom : n + m ≤ cap
      · have hfit : n * i.size + news.length ≤ cur.size := by rw [hl, hcs, ← Nat.add_mul]; exact Nat.mul_le_mul_right _ hroom
        have hr := run_append_room (P := P) w t ty e i ht hi g n cap cur hg a m c news hl hnews h1 hroom hfit
        have hg0 : w.grownBy (w.setRow g (cur.toList.take (n * i.size) ++ news ++ cur.toList.drop (n * i.size + news.length)).toArray) (some g) :=
          ⟨rfl, rfl, rfl, by simp, fun k _ hk => setRow_other w g k _ (fun e => hk (by simp [e]))⟩
        refine ⟨_, _, hr, ⟨⟨hlen, .inr ⟨g, cap, _, rfl, hbg, setRow_heap w g cur _ e _ hg, hroom, hcm, ?_, ?_⟩⟩, hg0, below_of_grown hg0 rfl hlt0 b4, hg0.size, .inl rfl, fun a ha hoff => ?_⟩⟩
        · simp only [List.size_toArray, List.length_append, List.length_take, List.length_drop, Array.length_toList]
          omega
        · rw [htake, ← hlen]
          exact List.take_left
        · by_cases hag : a.block = g
          · have ho := hoff (by simp [Value.ownBlock, hag])
            obtain ⟨ab, ao, as⟩ := a
            simp only at hag ho
            subst hag
            simp only [World.cell?, setRow_heap w ab cur _ e _ hg, hg]
            cases as with
            | some s => rfl
            | none =>
              have hlt : ao < (cur.toList.take (n * i.size)).length := by simp; omega
              simp only [Option.isSome_none, Bool.false_eq_true, if_false, List.getElem?_toArray, List.append_assoc]
              rw [List.getElem?_append_left hlt, List.getElem?_take, if_pos ho]
              simp
          · exact World.cell?_of_block (hg0.block a.block ha (by simpa using hag))
      · have holds : ∀ j u, xs[j]? = some u → w.cell? ((⟨g, 0, none⟩ : Addr).add j) = some u := hown.cells (g := g) rfl
        have hr := run_append_grow (P := P) w t ty e i z ht hi hz ⟨g, 0, none⟩ n cap xs hown.1 holds a m c news hl hnews (by omega) (by omega) (growslice_fits (by omega) b2)
        exact ⟨_, _, hr, grown cap (by omega)⟩

theorem Appended.rd {base size n m sz k : Nat} {e : TypeId} {w w' : World} {v v' : Value} {xs news cs : List Value} {a : Option Addr} (h : Appended base e size w w' v v' n m xs news)
    (hr : Rd w a k sz cs) (hoff : ∀ b o, a = some ⟨b, o, none⟩ → v.ownBlock = some b → o + k * sz ≤ n * size) : Rd w' a k sz cs := by
  refine ⟨hr.1, ?_⟩
  rcases hr.2 with h0 | ⟨b, o, ha, hlt, hc⟩
  · exact .inl h0
  · refine .inr ⟨b, o, ha, Nat.lt_of_lt_of_le hlt h.grew, fun j u hu => ?_⟩
    rw [h.cell ⟨b, o + j, none⟩ hlt fun e => ?_]
    · exact hc j u hu
    · have := hoff b o ha e
      have h2 := (List.getElem?_eq_some_iff.1 hu).1
      have h3 := hr.1
      simp only
      omega

theorem Appended.keeps {base base' size n m sz k : Nat} {e e' : TypeId} {w w' : World} {v v' u : Value} {xs news cs : List Value} (h : Appended base e size w w' v v' n m xs news)
    (ho : w.ownsRow base' e' sz u k cs) (hne : u.ownBlock = none ∨ u.ownBlock ≠ v.ownBlock) : w'.ownsRow base' e' sz u k cs := ho.kept h.row hne

section
variable {P : Program} {ops : Array Oper} {rest : List Oper} {o : Oper} {a : Act} {Q : Exit → Act → World → Prop}

/-- append(s, x...) -/
theorem apx {w : World} (hg : o.guard = none) (s x : Operand) (t : TypeId) (hop : o.op = .call { callee := .builtin .append, args := #[s, x], argTypes := #[t, t] })
    (base : Nat) {e : TypeId} {z : Value} {size bytes : Nat} (T : ET P t e z size bytes)
    (v : Value) (n : Nat) (xs : List Value) (hown : w.ownsRow base e size v n xs) (hs : a.eval s = v)
    (ad : Option Addr) (m c : Nat) (news : List Value) (hx : a.eval x = .slice ad m c) (hnil : ad = none → c = 0) (hR : Rd w ad m size news) (h1 : ∀ u ∈ news, u.oneCell' = true)
    (b1 : n + m ≤ maxLen) (b2 : (n + m) * bytes ≤ 140737488355328) (b4 : base ≤ w.heap.size)
    (hK : ∀ a' c' w', Appended base e size w w' v (.slice a' (n + m) c') n m xs news → wpList P ops Q rest (a.put o.dst (.slice a' (n + m) c')) w') :
    wpList P ops Q (o :: rest) a w := by
  obtain ⟨v', w', hrun, happ⟩ := run_append_law (ty := o.type) base T v n xs hown ad m c news hnil hR h1 b1 b2 b4
  obtain ⟨a', c', rfl, _, _⟩ := owns_slice happ.own
  refine wpList_plain hg fun K hK' => ?_
  unfold Oper.wp
  simp [execOp, hop, resolve, invoke, builtin, hs, hx, hrun, Result.andThen]
  exact hK' _ _ (hK _ _ _ happ)

theorem Appended.of_alloc {base size n m : Nat} {e e2 : TypeId} {w w' : World} {v v' : Value} {xs news : List Value} {cs : Array Value} (h : Appended base e size (w.alloc (.cells cs e2)) w' v v' n m xs news) (hlt : ∀ k, v.ownBlock = some k → base ≤ k ∧ k < w.heap.size) (hb : base ≤ w.heap.size) : Appended base e size w w' v v' n m xs news := by
  have h0 := World.grownBy_alloc w (.cells cs e2) v.ownBlock
  have hg : w.grownBy w' v.ownBlock := ⟨h.row.os.trans h0.os, h.row.tape.trans h0.tape, h.row.output.trans h0.output, Nat.le_trans h0.size h.row.size, fun k hk hne => (h.row.block k (by simp; omega) hne).trans (h0.block k hk hne)⟩
  refine ⟨h.own, hg, below_of_grown hg rfl hlt hb, hg.size, ?_, fun a ha ho => ?_⟩
  · rcases h.at_ with h1 | ⟨g, h1, h2⟩
    · exact .inl h1
    · exact .inr ⟨g, h1, by simp at h2; omega⟩
  · rw [h.cell a (by simp; omega) ho]
    exact World.cell?_alloc_lt _ _ _ ha

/-- append(s, x1, .., xm): the new elements lie in a block that has just been laid -/
theorem apl {w : World} (hg : o.guard = none) (s x : Operand) (t : TypeId) (hop : o.op = .call { callee := .builtin .append, args := #[s, x], argTypes := #[t, t] })
    (base : Nat) {e : TypeId} {z : Value} {size bytes : Nat} (T : ET P t e z size bytes)
    (v : Value) (n : Nat) (xs : List Value) (hown : w.ownsRow base e size v n xs) (hs : a.eval s = v)
    (m g : Nat) (news : Array Value) (hx : a.eval x = .slice (some ⟨g, 0, none⟩) m m) (hgs : g = w.heap.size) (hn : news.size = m * size) (h1 : news.toList.all (fun u => u.oneCell') = true)
    (b1 : n + m ≤ maxLen) (b2 : (n + m) * bytes ≤ 140737488355328) (b4 : base ≤ w.heap.size)
    (hK : ∀ a' c' w', Appended base e size w w' v (.slice a' (n + m) c') n m xs news.toList → wpList P ops Q rest (a.put o.dst (.slice a' (n + m) c')) w') :
    wpList P ops Q (o :: rest) a (w.alloc (.cells news e)) := by
  refine apx hg s x t hop base T v n xs (hown.alloc _) hs _ m m news.toList hx (by simp) (rd_new hgs hn) (List.all_eq_true.1 h1) b1 b2 (by simp; omega) fun a' c' w' h => hK a' c' w' ?_
  exact h.of_alloc hown.lt b4

/-- the same as the step of a region that draws its order -/
theorem stx {w : World} {K : Act → World → Prop} {E : Prop} (hg : o.guard = none) (s x : Operand) (t : TypeId) (hop : o.op = .call { callee := .builtin .append, args := #[s, x], argTypes := #[t, t] })
    (base : Nat) {e : TypeId} {z : Value} {size bytes : Nat} (T : ET P t e z size bytes)
    (v : Value) (n : Nat) (xs : List Value) (hown : w.ownsRow base e size v n xs) (hs : a.eval s = v)
    (ad : Option Addr) (m c : Nat) (news : List Value) (hx : a.eval x = .slice ad m c) (hnil : ad = none → c = 0) (hR : Rd w ad m size news) (h1 : ∀ u ∈ news, u.oneCell' = true)
    (b1 : n + m ≤ maxLen) (b2 : (n + m) * bytes ≤ 140737488355328) (b4 : base ≤ w.heap.size)
    (hK : ∀ a' c' w', Appended base e size w w' v (.slice a' (n + m) c') n m xs news → K (a.put o.dst (.slice a' (n + m) c')) w') :
    if Region.wanted o (yielded ops a.tmps) = true then Oper.wp P o a w K Q else E := by
  have hw : Region.wanted o (yielded ops a.tmps) = true := by simp [Region.wanted, hg]
  rw [if_pos hw]
  obtain ⟨v', w', hrun, happ⟩ := run_append_law (ty := o.type) base T v n xs hown ad m c news hnil hR h1 b1 b2 b4
  obtain ⟨a', c', rfl, _, _⟩ := owns_slice happ.own
  unfold Oper.wp
  simp [execOp, hop, resolve, invoke, builtin, hs, hx, hrun, Result.andThen]
  exact hK _ _ _ happ
end
end Go.Proofs.YtocfkmdoalhjmaaDoor
