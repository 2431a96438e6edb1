/- edenlaw01.awake; fault.New and Under make trees. -/
import Derived.Test.YtckipboebllkhaaDoorFltE
namespace Go.Proofs.YtckipboebllkhaaDoor
open Go.RowKit Go.Extern.Stop Go.Stop Go.Extern
set_option linter.unusedVariables false
set_option maxRecDepth 100000

theorem TR.new {w : World} {t : ErrT} {v : Value} (h : TR w t v) (op : ByteArray) (at_ : Int) : TR (w.alloc (faultObj op at_ v)) (.fault op at_ t) (.iface 57 (.pointer (some ⟨w.heap.size, 0, none⟩))) :=
  ⟨_, v, rfl, heap_alloc_new w _, h.up (balloc (bnil w) _)⟩
theorem TR.rootR {w : World} {R : Nat → Addr} (h : Sent w R) (n : Int) : TR w (.root (R (rix n))) (.iface 126 (.pointer (some (R (rix n))))) := ⟨rfl, h.row _ (rix_ltF n)⟩
/-- the tree of fault.New -/
def newT (R : Nat → Addr) (op : ByteArray) (at_ n : Int) : ErrT := if n = 0 then .none else .fault op at_ (.root (R (rix n)))
theorem newF_any (op : ByteArray) (at_ n : Int) (w : World) (R : Nat → Addr) (hS : Sent w R) :
    Calls Tryd.prog 11 #[.string op, .int .i64 at_, .int .i64 n] w fun e w' => ∃ v, e = .returned v ∧ TR w' (newT R op at_ n) v ∧ Below w.heap.size w w' := by
  by_cases hn : n = 0
  · subst hn
    go_enter Tryd.func11, Tryd.ntmps11
    go_wp2
    go_ret
    exact ⟨_, rfl, rfl, bnil w⟩
  · refine (new_err op at_ n w R hS.glob (by rw [beq_eq_false_iff_ne]; exact hn)).mono ?_
    rintro e w' ⟨rfl, rfl⟩
    refine ⟨_, rfl, ?_, balloc (bnil w) _⟩
    unfold newT
    rw [if_neg hn]
    exact (TR.rootR hS n).new op at_
/-- the tree of fault.Under -/
def underT (op : ByteArray) (at_ : Int) : ErrT → ErrT
  | .none => .none
  | t => .fault op at_ t
theorem underT_some {op : ByteArray} {at_ : Int} {t : ErrT} (h : t ≠ .none) : underT op at_ t = .fault op at_ t := by
  cases t with
  | none => exact absurd rfl h
  | _ => rfl
/-- the address of a Fault -/
theorem underF_any (op : ByteArray) (at_ : Int) (t : ErrT) (v : Value) (w : World) (hv : TR w t v) :
    Calls Tryd.prog 13 #[.string op, .int .i64 at_, v] w fun e w' => ∃ u, e = .returned u ∧ TR w' (underT op at_ t) u ∧ Below w.heap.size w w' := by
  rcases hv.shape with rfl | ⟨ty, p, rfl⟩
  · have ht : t = .none := hv.inj (t' := .none) rfl
    subst ht
    clear hv
    go_enter Tryd.func13, Tryd.ntmps13
    go_wp2
    go_ret
    exact ⟨_, rfl, rfl, bnil w⟩
  · have hne : t ≠ .none := fun e => by subst e; exact absurd hv (by simp [TR])
    have h2 := hv.new op at_
    rw [underT_some hne]
    have H2 := Lib.hid h2
    clear h2 hv hne
    go_enter Tryd.func13, Tryd.ntmps13
    go_wp2
    go_ret
    exact ⟨_, rfl, H2.out, balloc (bnil w) _⟩

theorem codeG_at {f : Nat → Bool} {n : Nat} (h1 : f n = true) : ∀ m k, k ≤ n → n < k + m → (∀ j, k ≤ j → j < n → f j = false) → codeG f m k = n
  | 0, k, h2, h3, _ => by omega
  | m + 1, k, h2, h3, h4 => by
    rw [codeG]
    by_cases e : k = n
    · subst e; rw [if_pos h1]
    · rw [if_neg (by rw [h4 k (Nat.le_refl _) (by omega)]; decide)]
      exact codeG_at h1 m (k + 1) (by omega) (by omega) fun j hj hj2 => h4 j (by omega) hj2
theorem codeG_none {f : Nat → Bool} : ∀ m k, (∀ j, k ≤ j → j < k + m → f j = false) → codeG f m k = 99
  | 0, k, _ => rfl
  | m + 1, k, h => by
    rw [codeG, if_neg (by rw [h k (Nat.le_refl _) (by omega)]; decide)]
    exact codeG_none m (k + 1) fun j hj hj2 => h j (by omega) (by omega)
theorem rix_num {n : Nat} (h : 1 ≤ n) (h2 : n ≤ 11) : rix (n : Int) = n - 1 := by
  have : n = 1 ∨ n = 2 ∨ n = 3 ∨ n = 4 ∨ n = 5 ∨ n = 6 ∨ n = 7 ∨ n = 8 ∨ n = 9 ∨ n = 10 ∨ n = 11 := by omega
  rcases this with rfl | rfl | rfl | rfl | rfl | rfl | rfl | rfl | rfl | rfl | rfl <;> rfl
theorem rix_out {n : Int} (h : ¬ (1 ≤ n ∧ n ≤ 11)) : rix n = 11 := by
  unfold rix
  repeat' split
  all_goals first | rfl | omega
/-- a number as Code tells it -/
def known (n : Int) : Nat := if 1 ≤ n ∧ n ≤ 11 then n.toNat else 99
/-- is api's error of the number j the one of n? -/
theorem root_finds {w : World} {R : Nat → Addr} (hS : Sent w R) (n : Int) {j : Nat} (h1 : 1 ≤ j) (h2 : j ≤ 11) : finds (R (rix (j : Int))) (.root (R (rix n))) = decide (known n = j) := by
  show decide (R (rix n) = R (rix (j : Int))) = _
  have e : (R (rix n) = R (rix (j : Int))) ↔ known n = j := by
    constructor
    · intro h
      have h3 := hS.apart _ _ (rix_ltF n) (rix_ltF (j : Int)) h
      rw [rix_num h1 h2] at h3
      by_cases hn : 1 ≤ n ∧ n ≤ 11
      · obtain ⟨m, rfl⟩ : ∃ m : Nat, n = m := ⟨n.toNat, by omega⟩
        rw [rix_num (by omega) (by omega)] at h3
        unfold known
        rw [if_pos hn]
        omega
      · rw [rix_out hn] at h3
        omega
    · intro h
      by_cases hn : 1 ≤ n ∧ n ≤ 11
      · obtain ⟨m, rfl⟩ : ∃ m : Nat, n = m := ⟨n.toNat, by omega⟩
        unfold known at h
        rw [if_pos hn] at h
        obtain rfl : m = j := by omega
        rfl
      · unfold known at h
        rw [if_neg hn] at h
        omega
  exact decide_eq_decide.2 e
def awT (R : Nat → Addr) : ErrT := .fault ⟨#[105, 110, 106, 101, 99, 116]⟩ 0 (.fault ⟨#[114, 117, 108, 101]⟩ 2 (.root (R 0)))
set_option maxHeartbeats 4000000 in
theorem awake01 (w : World) (R : Nat → Addr) (hE : Env w R) : Calls Tryd.prog 9 #[] w fun e w' => e = .returned (.bool true) ∧ Below w.heap.size w w' := by
  have HE := Lib.hid hE
  clear hE
  go_enter Tryd.func9, Tryd.ntmps9
  go_wp2_with fail
  refine (newF_any _ _ _ _ R HE.out.sent).mono ?_; rintro e w1 ⟨v1, rfl, h1, hb1⟩
  have H1 := Lib.hid h1
  have HB1 := Lib.hid hb1
  clear h1 hb1
  go_wp2_with fail
  refine (underF_any _ _ _ _ _ H1.out).mono ?_; rintro e w2 ⟨v2, rfl, h2, hb2⟩
  have h2 : TR w2 (awT R) v2 := h2
  obtain ⟨g, x, rfl, h2b, h2c⟩ := h2
  have H2 : Hid (TR w2 (awT R) _) := ⟨g, x, rfl, h2b, h2c⟩
  have HB2 := Lib.hid (HB1.out.trans (hb2.mono HB1.out.size))
  clear h2b h2c hb2 H1 HB1
  go_wp2_with fail
  refine (inner_all _ _ _ H2.out (HE.out.et.up HB2.out) (by simp [awT, faultsF])).mono ?_; rintro e w3 ⟨rfl, hb3⟩
  rw [show inOp (faultsF (awT R)) = ⟨#[114, 117, 108, 101]⟩ from rfl, show inAt (faultsF (awT R)) = 2 from rfl, show inOk (faultsF (awT R)) = true from rfl]
  have H3 := Lib.hid (H2.out.up hb3)
  have HB3 := Lib.hid (HB2.out.trans (hb3.mono HB2.out.size))
  clear hb3 H2 HB2
  go_wp2_with fail
  refine (code_all R _ _ _ H3.out (HE.out.sent.up HB3.out)).mono ?_; rintro e w4 ⟨rfl, hb4⟩
  have hcd : codeF R (awT R) = 1 := by
    rw [codeF_some R (by simp [awT])]
    refine codeG_at (n := 1) ?_ 11 1 (by omega) (by omega) fun j h1 h2 => by omega
    exact (root_finds HE.out.sent 1 (Nat.le_refl _) (by omega)).trans rfl
  rw [hcd]
  have H4 := Lib.hid (H3.out.up hb4)
  have HB4 := Lib.hid (HB3.out.trans (hb4.mono HB3.out.size))
  clear hb4 H3 HB3 hcd
  go_wp2_with fail
  refine (deep_all _ _ _ H4.out (HE.out.et.up HB4.out) (by simp [awT, faultsF])).mono ?_; rintro e w5 ⟨rfl, hb5⟩
  rw [show (faultsF (awT R)).length = 2 from rfl]
  have HB5 := Lib.hid (HB4.out.trans (hb5.mono HB4.out.size))
  clear hb5 H4 HB4
  go_wp2
  go_ret
  exact ⟨rfl, HB5.out⟩
end Go.Proofs.YtckipboebllkhaaDoor
