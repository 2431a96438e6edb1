/- The contract of slices.IndexFunc over numbers. -/
import Derived.Test.YtiglilecmieelaaGreatDoorInts
import Derived.WalkKit
import Derived.Lib.Hide
namespace Go.Proofs.YtiglilecmieelaaGreatDoor
open Go.RowKit
set_option linter.unusedVariables false
set_option maxRecDepth 100000

/-- the place of the first number for which p holds; -1: there is none -/
def idxI (p : Int → Bool) (l : List Int) : Int := match l.findIdx? p with | some i => (i : Int) | none => -1

/-- a function value's contract: a test of a number -/
def PredOf (F : Nat) (cap : Array Value) (p : Int → Bool) (w : World) : Prop := ∀ (W : World) (x : Int), Below w.heap.size w W → Calls Tryz.prog F (#[.int .i64 x] ++ cap) W fun e w' => e = .returned (.bool (p x)) ∧ ∃ n, w' = W.drewN n

theorem findIdx_at {p : Int → Bool} {l : List Int} {k : Nat} (hk : k < l.length) (h0 : ∀ x ∈ l.take k, p x = false) (h1 : p (l.getD k 0) = true) : idxI p l = (k : Int) := by
  have : l.findIdx? p = some k := by
    rw [List.findIdx?_eq_some_iff_getElem]
    refine ⟨hk, by simpa [hk] using h1, fun j hj => ?_⟩
    have := h0 l[j] (by rw [List.mem_take_iff_getElem]; exact ⟨j, by omega, rfl⟩)
    simpa using this
  unfold idxI; rw [this]
theorem findIdx_none {p : Int → Bool} {l : List Int} (h0 : ∀ x ∈ l, p x = false) : idxI p l = -1 := by
  have : l.findIdx? p = none := by rw [List.findIdx?_eq_none_iff]; exact h0
  unfold idxI; rw [this]
theorem all_take_succ {p : Int → Bool} {l : List Int} {k : Nat} (hk : k < l.length) (h0 : ∀ x ∈ l.take k, p x = false) (h1 : p (l.getD k 0) = false) : ∀ x ∈ l.take (k + 1), p x = false := by
  rw [List.take_succ_eq_append_getElem hk]
  intro x hx
  rcases List.mem_append.1 hx with hx | hx
  · exact h0 x hx
  · simp at hx; subst hx; simpa [hk] using h1

set_option maxHeartbeats 1000000 in
theorem indexFunc_any (a : Option Addr) (n c : Nat) (l : List Int) (F : Nat) (cap : Array Value) (p : Int → Bool) (W : World) (hR : RK .i64 W a n l) (hm : n ≤ maxLen) (hE : ∀ args w, (callFunc F args).run Tryz.prog w = .ok (.enter F args) w) (hP : PredOf F cap p W) :
    Calls Tryz.prog 58 #[.slice a n c, .func (.func F) #[] cap] W fun e w' => e = .returned (.int .i64 (idxI p l)) ∧ ∃ n, w' = W.drewN n := by
  unfold maxLen at hm
  have HL := Lib.hid hR.len
  have HR := Lib.hid hR; clear hR
  have HP := Lib.hid hP; clear hP
  go_enter Tryz.func58, Tryz.ntmps58
  go_wp2_with fail
  go_loopw [8] (fun i wr => ∃ (k m : Nat), k ≤ n ∧ i = .int .i64 k ∧ (∀ x ∈ l.take k, p x = false) ∧ wr = W.drewN m) (fun i _ => n - (intOf i).toNat)
  case atStart => exact ⟨0, 0, by omega, rfl, fun x hx => by simp at hx, rfl⟩
  case round =>
    obtain ⟨k, m, hk, rfl, h0, rfl⟩ := hrel
    by_cases hlt : k < n
    · obtain ⟨b, o, rfl, hbo, hc⟩ := HR.out.addr (by omega)
      have x0 := hc k hlt
      clear hc
      have i0 : (0 : Int) ≤ (k : Int) := by omega
      have i1 : (k : Int) < (n : Int) := by omega
      have H1 : Hid (p (l.getD k 0) = true → idxI p l = (k : Int)) := fun h => findIdx_at (by have := HL.out; omega) h0 h
      have H2 : Hid (p (l.getD k 0) = false → ∀ x ∈ l.take (k + 1), p x = false) := fun h => all_take_succ (by have := HL.out; omega) h0 h
      clear h0
      generalize l.getD k 0 = z at *
      go_wp2_with fail
      refine (HP.out _ z (bdrewN (bnil _) m)).mono ?_; rintro e w' ⟨rfl, m2, rfl⟩
      cases hp : p z with
      | true =>
        have HF := Lib.hid (H1.out hp)
        clear hp
        go_wp2
        go_ret
        rw [HF.out]
        exact ⟨rfl, m + m2, by simp⟩
      | false =>
        have HF := Lib.hid (H2.out hp)
        clear hp
        go_wp2
        go_roundw
        case rel => exact ⟨k + 1, m + m2, by omega, by go_num, HF.out, by simp⟩
        case measure => simp [intOf]; omega
    · have HF : Hid (idxI p l = -1) := by
        refine findIdx_none ?_
        rw [List.take_of_length_le (by have := HL.out; omega)] at h0
        exact h0
      clear h0
      go_wp2
      go_ret
      rw [HF.out]
      exact ⟨rfl, m, rfl⟩
def badB (k x : Int) : Bool := decide (x < 0) || decide (k ≤ x)
theorem badB_false {k x : Int} : badB k x = false ↔ 0 ≤ x ∧ x < k := by simp [badB]
theorem badB_true {k x : Int} : badB k x = true ↔ x < 0 ∨ k ≤ x := by simp [badB]
theorem idxI_neg {p : Int → Bool} {l : List Int} (h : ¬ 0 ≤ idxI p l) : ∀ x ∈ l, p x = false := by
  unfold idxI at h
  split at h
  · exact absurd (Int.natCast_nonneg _) h
  · rename_i hn
    exact List.findIdx?_eq_none_iff.1 hn
end Go.Proofs.YtiglilecmieelaaGreatDoor
