/- Plain: the looks are bounded by the bytes. -/
import Derived.Test.YtoaooblodgejdaaDoorJdgX
namespace Go.Proofs.YtoaooblodgejdaaDoor
open Go.RowKit
set_option linter.unusedVariables false
set_option maxRecDepth 100000
theorem judgeRun_le (t cols : List Int) (h m : Nat) : ∀ (L : List (Int × Int × Int)) (i : Nat) (acc : List (Int × Int × Int)) (f n : Nat), (judgeRun t cols h m L i acc f n).1 ≤ n + L.length * (m * h)
  | [], i, acc, f, n => by
    unfold judgeRun
    split <;> simp
  | x :: r, i, acc, f, n => by
    have hl := (holdsF_le t h (cols.getD x.1.toNat 0).toNat x.1.toNat x.2.1.toNat x.2.2.toNat acc m 0 0).2
    have hs : (x :: r).length * (m * h) = r.length * (m * h) + m * h := Nat.succ_mul _ _
    rw [hs]
    unfold judgeRun
    split
    · have ih := judgeRun_le t cols h m r (i + 1) (acc ++ [x]) (f + if ¬ x ∈ acc ∧ x.1 = 0 then 1 else 0) (n + (holdsF t h (cols.getD x.1.toNat 0).toNat x.1.toNat x.2.1.toNat x.2.2.toNat acc m 0 0).1)
      omega
    · show n + _ ≤ _
      omega
/-- the looks are bounded by the bytes -/
theorem judgeF_le {t : List Int} {w h : Int} {l bs : List Int} : (judgeF t w h l bs).1 = 0 ∨ ∃ h' : Nat, h = (h' : Int) ∧ 1 ≤ h' ∧ h' ≤ 4 ∧ (judgeF t w h l bs).1 ≤ 8 * (bs.length + 1) * (h' + 2) * (4 * 2 ^ h') := by
  unfold judgeF
  cases hg : gvD t w h l with
  | some e => exact .inl rfl
  | none =>
    simp only
    cases hd : decF bs with
    | error y => exact .inl rfl
    | ok z =>
      obtain ⟨cw, ch, L⟩ := z
      simp only
      split
      · exact .inl rfl
      · rename_i hn
        right
        obtain ⟨w', h', hcw, hch, _, _, h1, h4, _, hL, _⟩ := dec_ok hd
        have e1 : h = (h' : Int) := by omega
        refine ⟨h', e1, h1, h4, ?_⟩
        have hr := judgeRun_le t (colL w.toNat h.toNat l) h.toNat (4 * 2 ^ h.toNat) L 0 [] 0 0
        have hle : L.length * (4 * 2 ^ h.toNat * h.toNat) ≤ 8 * (bs.length + 1) * (h' + 2) * (4 * 2 ^ h') := by
          have e2 : h.toNat = h' := by omega
          rw [e2]
          have e3 : L.length * (4 * 2 ^ h' * h') = (L.length * h') * (4 * 2 ^ h') := by rw [Nat.mul_comm (4 * 2 ^ h') h', Nat.mul_assoc]
          rw [e3]
          exact Nat.mul_le_mul_right _ (Nat.mul_le_mul (by omega) (by omega))
        generalize judgeRun t (colL w.toNat h.toNat l) h.toNat (4 * 2 ^ h.toNat) L 0 [] 0 0 = X at hr ⊢
        obtain ⟨n, o⟩ := X
        cases o <;> (simp only at hr ⊢; omega)
end Go.Proofs.YtoaooblodgejdaaDoor
