/- copy into a row of the call's own. Over any program. -/
import Derived.Test.YtocfkmdoalhjmaaDoorOwn
import Derived.Laws.CopyOwn
import Derived.WalkKit
namespace Go.Proofs.YtocfkmdoalhjmaaDoor
open Go.RowKit
set_option linter.unusedVariables false

/-- what copy leaves: the row with the new cells laid over it; the other blocks as they were -/
structure Copied (base : Nat) (e : TypeId) (w w' : World) (g n c : Nat) (xs' : List Value) : Prop where
  own : w'.ownsRow base e 1 (.slice (some ⟨g, 0, none⟩) n c) n xs'
  below : Below base w w'
  other : ∀ k, k ≠ g → w'.heap[k]? = w.heap[k]?
  size : w'.heap.size = w.heap.size

theorem splice_take {cur : List Value} {n off : Nat} {cs : List Value} (h : off + cs.length ≤ n) (hn : n ≤ cur.length) : (splice cur off cs).take n = splice (cur.take n) off cs := by
  unfold splice
  have h1 : (cur.take off).length = off := by simp; omega
  rw [List.take_append, h1, List.take_append, List.take_of_length_le (l := cur.take off) (by rw [h1]; omega), List.take_of_length_le (l := cs) (by omega), List.take_take, Nat.min_eq_left (by omega), List.drop_take, Nat.sub_sub]

theorem run_copy_law {P : Program} {w : World} {dT sT ty : TypeId}
    (base : Nat) {e : TypeId} {z : Value} {bytes : Nat} (T : ET P dT e z 1 bytes) {g n c : Nat} {xs : List Value} (hown : w.ownsRow base e 1 (.slice (some ⟨g, 0, none⟩) n c) n xs)
    (dp sp : Option Addr) (off dLen dCap sLen sCap m : Nat) (news : List Value) (hm : Nat.min sLen dLen = m)
    (hdp : 0 < m → dp = some ⟨g, off, none⟩) (hR : Rd w sp sLen 1 news) (h1 : ∀ u ∈ news, u.oneCell' = true) (hfit : off + m ≤ n) :
    ∃ w', (Builtin.copy_ #[dT, sT] ty #[.slice dp dLen dCap, .slice sp sLen sCap]).run P w = .ok (.int .i64 m) w' ∧ Copied base e w w' g n c (splice xs off (news.take m)) := by
  subst hm
  obtain ⟨i, hi, hz, h4, h5⟩ := T.hi
  have hsz : (P.info? e).map (·.size) = some 1 := by simp [hi, h4]
  have hnl : news.length = sLen := by simpa using hR.1
  by_cases h0 : Nat.min sLen dLen = 0
  · have hrun := run_copy_none (P := P) w dT sT ty e dp sp dLen dCap sLen sCap T.ht hsz h0
    rw [h0]
    refine ⟨w, hrun, ?_, Below.refl _ _, fun _ _ => rfl, rfl⟩
    have e : splice xs off (List.take 0 news) = xs := by simp [splice]
    rw [e]; exact hown
  · have hpos : 0 < Nat.min sLen dLen := by omega
    obtain rfl := hdp hpos
    have hle1 : Nat.min sLen dLen ≤ sLen := Nat.min_le_left ..
    obtain ⟨b, ob, rfl, hlt, hc⟩ := hR.2.resolve_left (by omega)
    rcases hown.2 with ⟨h, _⟩ | ⟨g', cap, cur, h, hbg, hg, hnc, hcm, hcs, htake⟩
    · cases h
    · cases h
      have hml : (news.take (Nat.min sLen dLen)).length = Nat.min sLen dLen := by rw [List.length_take, hnl]; omega
      have hcs' : cur.size = c := by simpa using hcs
      have hrun := run_copy_row (P := P) w dT sT ty e g off dLen dCap ⟨b, ob, none⟩ sLen sCap cur e (news.take (Nat.min sLen dLen)) T.ht hsz hg hml
        (fun j v hj => by
          rw [Addr.add_lit]
          rw [List.getElem?_take] at hj
          split at hj
          · exact hc j v hj
          · cases hj) (by rw [hml]; omega) (fun v hv => h1 v (List.mem_of_mem_take hv))
      rw [hml] at hrun
      refine ⟨_, hrun, ⟨?_, .inr ⟨g, c, _, rfl, hbg, setRow_heap w g _ _ e _ hg, hnc, hcm, ?_, ?_⟩⟩, ?_, fun k hk => setRow_other w g k _ hk, by simp [World.setRow]⟩
      · rw [length_splice _ _ _ (by rw [hml, hown.1]; simpa using hfit)]
        exact hown.1
      · simp only [List.size_toArray, List.length_append, List.length_take, List.length_drop, Array.length_toList]
        have hnl2 : Nat.min sLen dLen ≤ news.length := by omega
        rw [Nat.min_eq_left hnl2, Nat.min_eq_left (by omega)]
        omega
      · have := splice_take (cur := cur.toList) (n := n) (off := off) (cs := news.take (Nat.min sLen dLen)) (by rw [hml]; exact hfit) (by simp; omega)
        rw [Nat.mul_one] at htake ⊢
        rw [htake] at this
        rw [← this]
        unfold splice
        rw [hml]
        simp
      · exact below_setRow (Below.refl _ _) hbg _

section
variable {P : Program} {ops : Array Oper} {rest : List Oper} {o : Oper} {a : Act} {Q : Exit → Act → World → Prop}
/-- copy(d, s) -/
theorem cpy {w : World} (hgd : o.guard = none) (d s : Operand) (dT sT : TypeId) (ho : o.op = .call { callee := .builtin .copy, args := #[d, s], argTypes := #[dT, sT] })
    (base : Nat) {e : TypeId} {z : Value} {bytes : Nat} (T : ET P dT e z 1 bytes) {g n c : Nat} {xs : List Value} (hown : w.ownsRow base e 1 (.slice (some ⟨g, 0, none⟩) n c) n xs)
    (dp sp : Option Addr) (off dLen dCap sLen sCap m : Nat) (news : List Value) (hd : a.eval d = .slice dp dLen dCap) (hs : a.eval s = .slice sp sLen sCap) (hm : Nat.min sLen dLen = m)
    (hdp : 0 < m → dp = some ⟨g, off, none⟩) (hR : Rd w sp sLen 1 news) (h1 : ∀ u ∈ news, u.oneCell' = true) (hfit : off + m ≤ n)
    (hK : ∀ w', Copied base e w w' g n c (splice xs off (news.take m)) → wpList P ops Q rest (a.put o.dst (.int .i64 m)) w') : wpList P ops Q (o :: rest) a w := by
  obtain ⟨w', hrun, hc⟩ := run_copy_law (sT := sT) (ty := o.type) base T hown dp sp off dLen dCap sLen sCap m news hm hdp hR h1 hfit
  refine wpList_plain hgd fun K hK' => ?_
  unfold Oper.wp
  simp [execOp, ho, resolve, invoke, builtin, hd, hs, hrun, Result.andThen]
  exact hK' _ _ (hK w' hc)
end
end Go.Proofs.YtocfkmdoalhjmaaDoor
