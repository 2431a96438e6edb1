/- Package overlap: Edge; Nodes of a rule that is none. -/
import Derived.Test.YtiglilecmieelaaGreatDoorOvM
import Derived.Deep.RegionHeld3
import Derived.Deep.Cut
import Derived.IntWalk
namespace Go.Proofs.YtiglilecmieelaaGreatDoor
open Go.RowKit
set_option linter.unusedVariables false
set_option maxRecDepth 100000

theorem cpE {w w' : World} {a : Addr} {v : Value} (hb : Below w.heap.size w w') (h : w.cell? a = some v) : w'.cell? a = some v := (hb.cell (World.block_lt_of_cell? _ _ h)).trans h
set_option maxHeartbeats 4000000 in
theorem edge_ok (k r N v s : Nat) (a : Option Addr) (T c : Nat) (tb : List Int) (W : World) (hR : RK .i64 W a T tb) (h : IsRule k r tb) (hT : T ≤ 256) (hN : T = N * k) (hv : v < N) (hs : s < k) :
    Calls Tryz.prog 40 #[ruleV k r a T c, .int .i64 v, .int .i64 s] W fun e w' => e = .returned (.tuple #[.int .i64 (((v * k + s) % N : Nat) : Int), .int .i64 (tb.getD (v * k + s) 0), .nilIface]) ∧ Below W.heap.size W w' := by
  have k1 := h.k1
  have hI : v * k + s < T := by
    have : (v + 1) * k ≤ N * k := Nat.mul_le_mul_right _ hv
    rw [Nat.add_mul, Nat.one_mul] at this
    omega
  have hNle : N ≤ 256 := by
    have : N * 1 ≤ N * k := Nat.mul_le_mul_left _ k1
    omega
  obtain ⟨P, hP⟩ : ∃ P, v * k = P := ⟨_, rfl⟩
  have hPI : (v : Int) * (k : Int) = (P : Int) := by rw [← hP, Int.natCast_mul]
  rw [hP] at hI ⊢
  obtain ⟨b, o, rfl, hbl, hc⟩ := hR.addr (by omega)
  have hci := hc (P + s) hI
  generalize tb.getD (P + s) 0 = y at *
  obtain ⟨w0, hw0⟩ : ∃ w0, W.alloc (.cells #[.int .i64 k, .int .i64 r, .slice (some ⟨b, o, none⟩) T c] 24) = w0 := ⟨_, rfl⟩
  have HBX : Hid (Below W.heap.size W w0) := by show Below _ _ _; rw [← hw0]; exact balloc (bnil W) _
  have hx : w0.cell? ⟨W.heap.size, 0, none⟩ = some (.int .i64 k) ∧ w0.cell? ⟨W.heap.size, 1, none⟩ = some (.int .i64 r) ∧ w0.cell? ⟨W.heap.size, 2, none⟩ = some (.slice (some ⟨b, o, none⟩) T c) := by rw [← hw0]; exact ⟨by simp, by simp, by simp⟩
  have hy : w0.cell? ⟨b, o + (P + s), none⟩ = some (.int .i64 y) := cpE HBX.out hci
  have HS0 : Hid (w0.cell? ⟨W.heap.size, 0, none⟩ = some (.int .i64 k) ∧ w0.cell? ⟨W.heap.size, 1, none⟩ = some (.int .i64 r) ∧ w0.cell? ⟨W.heap.size, 2, none⟩ = some (.slice (some ⟨b, o, none⟩) T c) ∧ w0.cell? ⟨b, o + (P + s), none⟩ = some (.int .i64 y)) := ⟨hx.1, hx.2.1, hx.2.2, hy⟩
  have HSM := Lib.hid (osmall_ok k r (some ⟨b, o, none⟩) T c tb w0 (hR.up HBX.out) h hT)
  have HND : Hid (∀ w1, Calls Tryz.prog 42 #[.agg #[.int .i64 k, .int .i64 r, .slice (some ⟨b, o, none⟩) T c]] w1 fun e w' => e = .returned (.int .i64 (N : Int)) ∧ Below w1.heap.size w1 w') := fun w1 => nodes_any k r N (some ⟨b, o, none⟩) T c w1 k1 hN (by omega)
  obtain ⟨x0, x1, x2⟩ := hx
  rw [← hw0] at x0 x1 x2
  have HWB := Lib.hid hw0
  have q0 : (0 : Int) ≤ (v : Int) := by omega
  have q1 : (v : Int) < (N : Int) := by omega
  have q2 : (0 : Int) ≤ (s : Int) := by omega
  have q3 : (s : Int) < (k : Int) := by omega
  have q4 : IntKind.i64.wrap (P : Int) = (P : Int) := IntWalk.i64_in _ (by omega)
  have q5 : IntKind.i64.wrap ((P : Int) + (s : Int)) = ((P + s : Nat) : Int) := by rw [IntWalk.i64_in _ (by omega)]; omega
  clear hR h hT hci hbl hc hw0 hy hN hP
  obtain ⟨I, hIe⟩ : ∃ I, P + s = I := ⟨_, rfl⟩
  rw [hIe] at q5 HS0 hI ⊢
  clear hIe
  have q6 : (0 : Int) ≤ (I : Int) := by omega
  have q7 : (I : Int) < (T : Int) := by omega
  have q8 : (0 : Int) < (N : Int) := by omega
  have q9 : (I : Int).tmod (N : Int) = ((I % N : Nat) : Int) := by rw [Int.tmod_eq_emod_of_nonneg q6]; rfl
  have q10 : IntKind.i64.wrap ((I % N : Nat) : Int) = ((I % N : Nat) : Int) := IntWalk.i64_in _ (by have := Nat.mod_lt I (show 0 < N by omega); omega)
  have q11 : ¬ N = 0 := by omega
  have q12 : ¬ (N : Int) = 0 := by omega
  go_enter Tryz.func40, Tryz.ntmps40
  go_wp2_with fail
  rw [HWB.out]
  refine HSM.out.mono ?_; rintro e w1 ⟨rfl, hb⟩
  have HB1 := Lib.hid (bstep HBX.out hb)
  have HS1 := Lib.hid (And.intro (cpE hb HS0.out.1) (And.intro (cpE hb HS0.out.2.1) (And.intro (cpE hb HS0.out.2.2.1) (cpE hb HS0.out.2.2.2))))
  clear hb x0 x1 x2
  obtain ⟨x0, x1, x2, _⟩ := HS1.out
  go_wp2_with fail
  refine (HND.out w1).mono ?_; rintro e w2 ⟨rfl, hb⟩
  have HB2 := Lib.hid (bstep HB1.out hb)
  have HS2 := Lib.hid (And.intro (cpE hb HS1.out.1) (And.intro (cpE hb HS1.out.2.1) (And.intro (cpE hb HS1.out.2.2.1) (cpE hb HS1.out.2.2.2))))
  clear hb x0 x1 x2
  obtain ⟨x0, x1, x2, x3⟩ := HS2.out
  have HD : Hid (Below W.heap.size W w2.drew) := bstep HB2.out (Below.drew (bnil w2))
  have HS3 : Hid (w2.drew.cell? ⟨W.heap.size, 0, none⟩ = some (.int .i64 k) ∧ w2.drew.cell? ⟨W.heap.size, 1, none⟩ = some (.int .i64 r) ∧ w2.drew.cell? ⟨W.heap.size, 2, none⟩ = some (.slice (some ⟨b, o, none⟩) T c) ∧ w2.drew.cell? ⟨b, o + I, none⟩ = some (.int .i64 y)) := HS2.out
  go_upto_region 9 with (fail)
  go_region_held3 (fun w => w.cell? ⟨W.heap.size, 0, none⟩ = some (.int .i64 k) ∧ w.cell? ⟨W.heap.size, 1, none⟩ = some (.int .i64 r) ∧ w.cell? ⟨W.heap.size, 2, none⟩ = some (.slice (some ⟨b, o, none⟩) T c) ∧ w.cell? ⟨b, o + I, none⟩ = some (.int .i64 y))
    (first | with_reducible exact HS3.out | with_reducible exact HS4.out)
    ((go_at_call 42; refine (HND.out _).mono ?_; rintro e w3 ⟨rfl, hb⟩; have HB3 := Lib.hid (bstep HD.out hb); have HS4 := Lib.hid (And.intro (cpE hb HS3.out.1) (And.intro (cpE hb HS3.out.2.1) (And.intro (cpE hb HS3.out.2.2.1) (cpE hb HS3.out.2.2.2)))); clear hb))
  all_goals
    go_wp2
    go_ret3
    exact ⟨rfl, HB3.out⟩
set_option maxHeartbeats 1000000 in
theorem Nodes_err (k r : Int) (a : Option Addr) (n c : Nat) (l : List Int) (W : World) (R : Nat → Addr) (hG : Glob W R) (hR : RK .i64 W a n l) (hm : n ≤ maxLen) (h : ∀ kn rn : Nat, k = kn → r = rn → IsRule kn rn l → 256 < n) :
    Calls Tryz.prog 16 #[ruleV k r a n c] W fun e w' => ∃ g, e = .returned (.tuple #[.int .i64 0, .iface 75 (.pointer (some ⟨g, 0, none⟩))]) ∧ Below W.heap.size W w' := by
  obtain ⟨w0, hw0⟩ : ∃ w0, W.alloc (.cells #[.int .i64 k, .int .i64 r, .slice a n c] 24) = w0 := ⟨_, rfl⟩
  have HBX : Hid (Below W.heap.size W w0) := by show Below _ _ _; rw [← hw0]; exact balloc (bnil W) _
  have HC := Lib.hid (osmall_err k r a n c l w0 R (hG.up HBX.out) (hR.up HBX.out) hm h)
  have HWB := Lib.hid hw0
  clear hG hR hm h hw0
  go_enter Tryz.func16, Tryz.ntmps16
  go_wp2_with fail
  rw [HWB.out]
  refine HC.out.mono ?_; rintro e w1 ⟨g, rfl, hb⟩
  have HB := Lib.hid (bstep HBX.out hb)
  clear hb
  go_wp2
  go_ret2
  exact ⟨g, rfl, HB.out⟩
end Go.Proofs.YtiglilecmieelaaGreatDoor
