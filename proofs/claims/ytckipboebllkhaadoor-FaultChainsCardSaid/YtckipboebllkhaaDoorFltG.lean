/- A chain of Faults told further by a list of packages; edenraw.Texts. -/
import Derived.Test.YtckipboebllkhaaDoorFltF
namespace Go.Proofs.YtckipboebllkhaaDoor
open Go.RowKit Go.Extern.Stop Go.Stop Go.Extern
set_option linter.unusedVariables false
set_option maxRecDepth 100000

abbrev strC (l : List ByteArray) : List Value := l.map Value.string
/-- a slice of strings reads as these -/
def SR (w : World) (a : Option Addr) (n : Nat) (l : List ByteArray) : Prop := n = l.length ∧ Rd w a n 1 (strC l)
theorem SR.up {w w' : World} {a : Option Addr} {n : Nat} {l : List ByteArray} (h : SR w a n l) (hb : Below w.heap.size w w') : SR w' a n l := ⟨h.1, h.2.up hb⟩
theorem SR.addr {w : World} {a : Option Addr} {n : Nat} {l : List ByteArray} (h : SR w a n l) (hn : 0 < n) :
    ∃ b o, a = some ⟨b, o, none⟩ ∧ b < w.heap.size ∧ ∀ j, j < n → w.cell? ⟨b, o + j, none⟩ = some (.string (l.getD j ByteArray.empty)) := by
  obtain ⟨h1, h2, h3⟩ := h
  rcases h3 with h0 | ⟨b, o, ha, hb, hc⟩
  · omega
  · refine ⟨b, o, ha, hb, fun j hj => ?_⟩
    refine hc j _ ?_
    have : j < l.length := by omega
    simp [strC, this]
theorem SR.own {w : World} {base n m c : Nat} {e : TypeId} {a : Option Addr} {l : List ByteArray} (h : w.ownsRow base e 1 (.slice a m c) n (strC l)) : SR w a n l := by
  have h2 := owns_rd h
  exact ⟨by have := h.1; simpa [strC] using this.symm, h2.2⟩
theorem SR.take {w : World} {a : Option Addr} {n k : Nat} {l : List ByteArray} (h : SR w a n l) (hk : k ≤ n) : SR w a k (l.take k) := by
  refine ⟨by have := h.1; simp; omega, ?_⟩
  have := h.2.take hk
  rwa [Nat.mul_one, strC, ← List.map_take] at this
/-- told further by the first k of these packages -/
def chT (t : ErrT) (l : List ByteArray) : Nat → ErrT
  | 0 => t
  | k + 1 => .fault (l.getD k ByteArray.empty) (k : Nat) (chT t l k)
theorem chT_some {t : ErrT} (h : t ≠ .none) (l : List ByteArray) : ∀ k, chT t l k ≠ .none
  | 0 => h
  | k + 1 => by simp [chT]
theorem chT_len (t : ErrT) (l : List ByteArray) : ∀ k, (faultsF (chT t l k)).length = (faultsF t).length + k
  | 0 => rfl
  | k + 1 => by show (faultsF (chT t l k)).length + 1 = _; rw [chT_len t l k]; omega
/-- the packages -/
def opsF (t : ErrT) : List ByteArray := (faultsF t).map fun x => x.1
theorem opsF_len (t : ErrT) : (opsF t).length = (faultsF t).length := by simp [opsF]
theorem opsF_str (t : ErrT) : ((faultsF t).map fun x => Value.string x.1) = strC (opsF t) := by simp [opsF, strC]
theorem opsF_at (t : ErrT) (l : List ByteArray) : ∀ k i, i < k → (opsF (chT t l k)).getD (k - 1 - i) ByteArray.empty = l.getD i ByteArray.empty
  | 0, i, h => by omega
  | k + 1, i, h => by
    show (l.getD k ByteArray.empty :: opsF (chT t l k)).getD (k - i) ByteArray.empty = _
    by_cases e : i = k
    · subst e; rw [Nat.sub_self]; rfl
    · rw [show k - i = k - 1 - i + 1 from by omega, List.getD_cons_succ]
      exact opsF_at t l k i (by omega)
theorem opsF_root (t : ErrT) (l : List ByteArray) : ∀ k j, (opsF (chT t l k)).getD (k + j) ByteArray.empty = (opsF t).getD j ByteArray.empty
  | 0, j => by rw [Nat.zero_add]; rfl
  | k + 1, j => by
    show (l.getD k ByteArray.empty :: opsF (chT t l k)).getD (k + 1 + j) ByteArray.empty = _
    rw [show k + 1 + j = k + j + 1 from by omega, List.getD_cons_succ]
    exact opsF_root t l k j
theorem finds_chT (b : Addr) (t : ErrT) (l : List ByteArray) : ∀ k, finds b (chT t l k) = finds b t
  | 0 => rfl
  | k + 1 => finds_chT b t l k
set_option maxHeartbeats 4000000 in
/-- edenraw.Texts of equal texts -/
theorem texts_q (a1 a2 : Option Addr) (n c1 c2 : Nat) (l : List ByteArray) (W : World) (h1 : SR W a1 n l) (h2 : SR W a2 n l) (hm : n ≤ 1000000) :
    Calls Tryd.prog 15 #[.slice a1 n c1, .slice a2 n c2] W fun e w' => e = .returned (.bool true) ∧ ∃ q, w' = W.drewN q := by
  have H1 := Lib.hid h1
  have H2 := Lib.hid h2
  clear h1 h2
  go_enter Tryd.func15, Tryd.ntmps15
  go_wp2_with fail
  go_loopw [5] (fun ix wr => ∃ j q : Nat, j ≤ n ∧ ix = .int .i64 (j : Nat) ∧ wr = W.drewN q) (fun ix _ => n - (intOf ix).toNat)
  case atStart => exact ⟨0, 0, by omega, rfl, rfl⟩
  case round =>
    obtain ⟨j, q, hj, rfl, rfl⟩ := hrel
    by_cases hjn : j < n
    · obtain ⟨b1, o1, rfl, hb1, x1⟩ := H1.out.addr (by omega)
      obtain ⟨b2, o2, rfl, hb2, x2⟩ := H2.out.addr (by omega)
      have c0 := x1 j hjn
      have d0 := x2 j hjn
      clear x1 x2
      have i0 : (0 : Int) ≤ (j : Int) := by omega
      have i1 : (j : Int) < (n : Int) := by omega
      generalize l.getD j ByteArray.empty = s at *
      go_wp2_with fail
      go_quiet (fail)
      generalize nq = q1 at *
      go_wp2
      go_roundw
      case rel => exact ⟨j + 1, q + q1, by omega, by go_num, by simp⟩
      case measure => simp [intOf]; omega
    · have i1 : ¬ (j : Int) < (n : Int) := by omega
      go_wp2
      go_ret
      exact ⟨rfl, q, rfl⟩
end Go.Proofs.YtckipboebllkhaaDoor
