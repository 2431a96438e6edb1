/- The contract of edenlaw16.awake. -/
import Derived.Test.YteneiianpghalaaDoorMatD
namespace Go.Proofs.YteneiianpghalaaDoor
open Go.RowKit
set_option linter.unusedVariables false
set_option maxRecDepth 100000

theorem Ns.lit {w : World} {e : TypeId} {g x : Nat} (hg : g = w.heap.size) (hx : x < B32) : Ns (w.alloc (.cells #[.int .u32 (x : Int)] e)) (some ⟨g, 0, none⟩) 1 1 [x] :=
  ⟨⟨rk_new (l := ofN [x]) hg rfl rfl, fun y hy => by simp at hy; rw [hy]; exact hx⟩, Nat.le_refl _, by decide⟩
theorem NsR.lit2 {w : World} {e : TypeId} {g : Nat} {v0 v1 : Value} {F : Nat → List Nat} (hg : g = w.heap.size) (h0 : ∃ a n c, v0 = .slice a n c ∧ Ns w a n c (F 0)) (h1 : ∃ a n c, v1 = .slice a n c ∧ Ns w a n c (F 1)) : NsR (w.alloc (.cells #[v0, v1] e)) (some ⟨g, 0, none⟩) 2 F := by
  subst hg
  refine .inr ⟨_, 0, rfl, by simp, fun j hj => ?_⟩
  obtain ⟨a0, n0, c0, rfl, h0⟩ := h0
  obtain ⟨a1, n1, c1, rfl, h1⟩ := h1
  rcases (show j = 0 ∨ j = 1 by omega) with rfl | rfl
  · exact ⟨.slice a0 n0 c0, by simp, a0, n0, c0, rfl, h0.up (balloc (bnil _) _)⟩
  · exact ⟨.slice a1 n1 c1, by simp, a1, n1, c1, rfl, h1.up (balloc (bnil _) _)⟩
theorem MsR.lit2 {w : World} {e : TypeId} {g a0 a1 : Nat} {F : Nat → Nat → List Nat} (hg : g = w.heap.size) (h0 : NsR w (some ⟨a0, 0, none⟩) 2 (F 0)) (h1 : NsR w (some ⟨a1, 0, none⟩) 2 (F 1)) : MsR (w.alloc (.cells #[.slice (some ⟨a0, 0, none⟩) 2 2, .slice (some ⟨a1, 0, none⟩) 2 2] e)) (some ⟨g, 0, none⟩) 2 (fun _ => 2) F := by
  subst hg
  refine .inr ⟨_, 0, rfl, by simp, fun j hj => ?_⟩
  rcases (show j = 0 ∨ j = 1 by omega) with rfl | rfl
  · exact ⟨.slice (some ⟨a0, 0, none⟩) 2 2, by simp, _, 2, rfl, Nat.le_refl _, by decide, fun e => by (cases e), NsR.up h0 (balloc (bnil _) _)⟩
  · exact ⟨.slice (some ⟨a1, 0, none⟩) 2 2, by simp, _, 2, rfl, Nat.le_refl _, by decide, fun e => by (cases e), NsR.up h1 (balloc (bnil _) _)⟩

def fibF : Nat → Nat → List Nat := fun i j => if i = 0 then [1] else if j = 0 then [1] else []
def ansF : Nat → Nat → List Nat := fun i j => if i = 0 then (if j = 0 then [89] else [55]) else if j = 0 then [55] else [34]
theorem fib_pow : ∀ i j, i < 2 → j < 2 → limbs (mpow 2 (vM fibF) 10 i j) = ansF i j := by
  intro i j hi hj
  rcases (show i = 0 ∨ i = 1 by omega) with rfl | rfl <;> rcases (show j = 0 ∨ j = 1 by omega) with rfl | rfl <;> decide +kernel
theorem fib_trc : limbs (trc 2 (vM ansF)) = [123] := by decide +kernel

def one32 (x : Nat) : Obj := .cells #[.int .u32 (x : Int)] 95
def two (v w : Value) : Obj := .cells #[v, w] 27
def lines (a b : Nat) : Obj := .cells #[.slice (some ⟨a, 0, none⟩) 2 2, .slice (some ⟨b, 0, none⟩) 2 2] 82
theorem fib_ms (W : World) : MsR ((((((W.alloc (one32 1)).alloc (one32 1)).alloc (two (.slice (some ⟨W.heap.size, 0, none⟩) 1 1) (.slice (some ⟨W.heap.size + 1, 0, none⟩) 1 1))).alloc (one32 1)).alloc (two (.slice (some ⟨W.heap.size + 1 + 1 + 1, 0, none⟩) 1 1) (.slice none 0 0))).alloc (lines (W.heap.size + 1 + 1) (W.heap.size + 1 + 1 + 1 + 1))) (some ⟨W.heap.size + 1 + 1 + 1 + 1 + 1, 0, none⟩) 2 (fun _ => 2) fibF := by
  refine MsR.lit2 (by simp) ?_ ?_
  · refine NsR.up (NsR.lit2 (by simp) ⟨_, _, _, rfl, ?_⟩ ⟨_, _, _, rfl, ?_⟩) (balloc (balloc (bnil _) _) _)
    · exact (Ns.lit rfl (by decide)).up (balloc (bnil _) _)
    · exact Ns.lit (by simp) (by decide)
  · refine NsR.lit2 (by simp) ⟨_, _, _, rfl, ?_⟩ ⟨_, _, _, rfl, ?_⟩
    · exact Ns.lit (by simp) (by decide)
    · exact ⟨⟨RK.nil, fun x hx => by cases hx⟩, Nat.le_refl _, by decide⟩
theorem ans_ms (W : World) : MsR (((((((W.alloc (one32 89)).alloc (one32 55)).alloc (two (.slice (some ⟨W.heap.size, 0, none⟩) 1 1) (.slice (some ⟨W.heap.size + 1, 0, none⟩) 1 1))).alloc (one32 55)).alloc (one32 34)).alloc (two (.slice (some ⟨W.heap.size + 1 + 1 + 1, 0, none⟩) 1 1) (.slice (some ⟨W.heap.size + 1 + 1 + 1 + 1, 0, none⟩) 1 1))).alloc (lines (W.heap.size + 1 + 1) (W.heap.size + 1 + 1 + 1 + 1 + 1))) (some ⟨W.heap.size + 1 + 1 + 1 + 1 + 1 + 1, 0, none⟩) 2 (fun _ => 2) ansF := by
  refine MsR.lit2 (by simp) ?_ ?_
  · refine NsR.up (NsR.lit2 (by simp) ⟨_, _, _, rfl, ?_⟩ ⟨_, _, _, rfl, ?_⟩) (balloc (balloc (balloc (bnil _) _) _) _)
    · exact (Ns.lit rfl (by decide)).up (balloc (bnil _) _)
    · exact Ns.lit (by simp) (by decide)
  · refine NsR.lit2 (by simp) ⟨_, _, _, rfl, ?_⟩ ⟨_, _, _, rfl, ?_⟩
    · exact (Ns.lit (by simp) (by decide)).up (balloc (bnil _) _)
    · exact Ns.lit (by simp) (by decide)
theorem MsR.congr {w : World} {a : Option Addr} {n : Nat} {F G : Nat → Nat → List Nat} (h : MsR w a n (fun _ => n) F) (e : ∀ i j, i < n → j < n → F i j = G i j) : MsR w a n (fun _ => n) G :=
  Cells.up h (bnil _) fun i v hi ⟨a', c', h1, h2, h3, h4, h5⟩ => ⟨a', c', h1, h2, h3, h4, Cells.up h5 (bnil _) fun j v hj ⟨a2, n2, c2, q1, q2⟩ => ⟨a2, n2, c2, q1, by rw [← e i j hi hj]; exact q2⟩⟩
theorem fib_len : ∀ i j, i < 2 → j < 2 → (fibF i j).length ≤ 1 := fun i j _ _ => by unfold fibF; split <;> (try split) <;> decide
theorem ans_len : ∀ i j, i < 2 → j < 2 → (ansF i j).length ≤ 1 := fun i j _ _ => by unfold ansF; split <;> (split <;> decide)

set_option maxHeartbeats 4000000 in
theorem awake16 (W : World) : Calls Tryd.prog 35 #[] W fun e w' => e = .returned (.bool true) ∧ Below W.heap.size W w' := by
  have HF := Lib.hid (fib_ms W)
  go_enter Tryd.func35, Tryd.ntmps35
  go_wp2_with fail
  refine (matPow_ok _ 2 2 10 fibF 1 _ HF.out (by decide) fib_len (by decide) (by decide)).mono ?_; rintro e w1 ⟨a1, c1, rows, its, rfl, ho1, hb1⟩
  have HO1 := Lib.hid (ho1.congr fib_pow)
  have HB1 := Lib.hid (Below.trans (balloc (balloc (balloc (balloc (balloc (balloc (bnil W) _) _) _) _) _) _) (hb1.mono (by simp; omega)))
  clear ho1 hb1 HF
  go_wp2_with fail
  refine (mtrace_ok a1 2 c1 ansF 1 _ HO1.out.msR (by decide) ans_len (by decide)).mono ?_; rintro e w2 ⟨a2, n2, c2, rfl, ho2, hb2⟩
  rw [fib_trc] at ho2
  have HO2 := Lib.hid ho2
  have HM2 := Lib.hid (MsR.up HO1.out.msR hb2)
  have HB2 := Lib.hid (HB1.out.trans (hb2.mono HB1.out.size))
  have HA := Lib.hid (ans_ms w2)
  clear ho2 hb2
  go_wp2_with fail
  refine (same_eq a1 _ 2 c1 2 (fun _ => 2) ansF _ (HM2.out.up ?c1) HA.out (by decide) (fun _ _ => by decide)).mono ?_
  case c1 => exact balloc (balloc (balloc (balloc (balloc (balloc (balloc (bnil w2) _) _) _) _) _) _) _
  rintro e w3 ⟨rfl, hb3⟩
  have HB3 := Lib.hid (Below.trans (balloc (balloc (balloc (balloc (balloc (balloc (balloc (bnil w2) _) _) _) _) _) _) _) (hb3.mono (by simp; omega)))
  clear hb3
  go_wp2_with fail
  refine (nats_eq a2 _ n2 1 c2 1 [123] _ (HO2.out.ns.nr.up (balloc HB3.out _)) (Ns.lit rfl (by decide)).nr (Nat.le_trans HO2.out.ns.le HO2.out.ns.cm)).mono ?_; rintro e w4 ⟨rfl, hb4⟩
  go_wp2
  go_ret
  exact ⟨rfl, (HB2.out.trans ((balloc HB3.out _).mono HB2.out.size)).trans (hb4.mono (by have := HB2.out.size; have := HB3.out.size; simp; omega))⟩
end Go.Proofs.YteneiianpghalaaDoor
