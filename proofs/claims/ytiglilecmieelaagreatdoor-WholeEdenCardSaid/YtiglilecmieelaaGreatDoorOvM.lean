/- Package overlap: small, nodes, Nodes (no leaning on other packages' texts). -/
import Derived.Test.YtiglilecmieelaaGreatDoorRuleA
import Derived.Test.YtiglilecmieelaaGreatDoorUnder
import Derived.Deep.QuietTactic
import Derived.BigQuiet
namespace Go.Proofs.YtiglilecmieelaaGreatDoor
open Go.RowKit
set_option linter.unusedVariables false
set_option maxRecDepth 100000

theorem rsmall_err (k r : Int) (a : Option Addr) (n c : Nat) (l : List Int) (W : World) (R : Nat → Addr) (hG : Glob W R) (hR : RK .i64 W a n l) (hm : n ≤ maxLen) (h : ∀ kn rn : Nat, k = kn → r = rn → IsRule kn rn l → 256 < n) :
    Calls Tryz.prog 53 #[ruleV k r a n c] W (ErrA W) := by
  have hm' : n ≤ 9223372036854775807 := hm
  have HH := Lib.hid h; clear h
  have HG := Lib.hid hG; clear hG
  have HR := Lib.hid hR; clear hR
  have hbx := balloc (bnil W) (.cells #[.int .i64 k, .int .i64 r, .slice a n c] 24)
  cases he : ruleErr k r l with
  | some at_ =>
    have HE := Lib.hid he; clear he
    go_enter Tryz.func53, Tryz.ntmps53
    go_wp2_with fail
    refine (rcheck_err k r a n c l _ R (HG.out.up hbx) (HR.out.up hbx) hm at_ HE.out).mono ?_; rintro e w2 ⟨g, rfl, he2, hb2⟩
    clear he2
    go_wp2
    go_ret
    exact ⟨_, rfl, hbx.trans (hb2.mono hbx.size)⟩
  | none =>
    obtain ⟨kn, rn, rfl, rfl, hI⟩ := ruleErr_none he
    have hbig := HH.out kn rn rfl rfl hI
    have HI := Lib.hid hI; clear hI he
    go_enter Tryz.func53, Tryz.ntmps53
    go_wp2_with fail
    refine (rcheck_ok kn rn a n c l _ (HR.out.up hbx) HI.out).mono ?_; rintro e w2 ⟨rfl, hb2⟩
    have x2 := (hb2.cell (p := ⟨W.heap.size, 2, none⟩) (by simp)).trans (show (W.alloc (.cells #[.int .i64 kn, .int .i64 rn, .slice a n c] 24)).cell? ⟨W.heap.size, 2, none⟩ = some (.slice a n c) by simp)
    have hb2W := hbx.trans (hb2.mono hbx.size)
    go_wp2_with fail
    refine (rule_wrong _ _ _ R (HG.out.up hb2W) (by rfl)).mono ?_; rintro e w' ⟨rfl, rfl⟩
    go_wp2
    go_ret
    exact ⟨_, rfl, balloc hb2W _⟩

theorem osmall_ok (k r : Nat) (a : Option Addr) (n c : Nat) (l : List Int) (W : World) (hR : RK .i64 W a n l) (h : IsRule k r l) (hn : n ≤ 256) :
    Calls Tryz.prog 41 #[ruleV k r a n c] W fun e w' => e = .returned .nilIface ∧ Below W.heap.size W w' := by
  have H := Lib.hid h; clear h
  have HR := Lib.hid hR; clear hR
  have hbx := balloc (bnil W) (.cells #[.int .i64 k, .int .i64 r, .slice a n c] 24)
  go_enter Tryz.func41, Tryz.ntmps41
  go_wp2_with fail
  refine (rsmall_ok k r a n c l _ (HR.out.up hbx) H.out hn).mono ?_; rintro e w2 ⟨rfl, hb2⟩
  go_wp2_with fail
  refine (undr_nil _ _ _).mono ?_; rintro e w3 ⟨rfl, rfl⟩
  go_wp2
  go_ret
  exact ⟨rfl, hbx.trans (hb2.mono hbx.size)⟩
theorem osmall_err (k r : Int) (a : Option Addr) (n c : Nat) (l : List Int) (W : World) (R : Nat → Addr) (hG : Glob W R) (hR : RK .i64 W a n l) (hm : n ≤ maxLen) (h : ∀ kn rn : Nat, k = kn → r = rn → IsRule kn rn l → 256 < n) :
    Calls Tryz.prog 41 #[ruleV k r a n c] W (ErrA W) := by
  have HH := Lib.hid h; clear h
  have HG := Lib.hid hG; clear hG
  have HR := Lib.hid hR; clear hR
  have hbx := balloc (bnil W) (.cells #[.int .i64 k, .int .i64 r, .slice a n c] 24)
  go_enter Tryz.func41, Tryz.ntmps41
  go_wp2_with fail
  refine (rsmall_err k r a n c l _ R (HG.out.up hbx) (HR.out.up hbx) hm HH.out).mono ?_; rintro e w2 ⟨g, rfl, hb2⟩
  have hb2W := hbx.trans (hb2.mono hbx.size)
  go_wp2_with fail
  refine (undr_some _ _ _ _ _).mono ?_; rintro e w3 ⟨rfl, rfl⟩
  go_wp2
  go_ret
  exact ⟨_, rfl, balloc hb2W _⟩
theorem nodes_any (k r N : Nat) (a : Option Addr) (n c : Nat) (W : World) (hk : 1 ≤ k) (hN : n = N * k) (hn : n ≤ 16384) :
    Calls Tryz.prog 42 #[ruleV k r a n c] W fun e w' => e = .returned (.int .i64 (N : Int)) ∧ Below W.heap.size W w' := by
  have hdiv : (n : Int) / (k : Int) = (N : Int) := by rw [hN, Int.natCast_mul]; exact Int.mul_ediv_cancel _ (by omega)
  have HB := Lib.hid (balloc (bnil W) (.cells #[.int .i64 k, .int .i64 r, .slice a n c] 24))
  have kp : (0 : Int) < (k : Int) := by omega
  have n0 : (0 : Int) ≤ (n : Int) := by omega
  have hNle : N ≤ 16384 := by
    have : N * 1 ≤ N * k := Nat.mul_le_mul_left _ hk
    omega
  clear hN
  go_enter Tryz.func42, Tryz.ntmps42
  go_wp2
  go_ret
  exact ⟨rfl, HB.out⟩
theorem Nodes_ok (k r N : Nat) (a : Option Addr) (n c : Nat) (l : List Int) (W : World) (hR : RK .i64 W a n l) (h : IsRule k r l) (hn : n ≤ 256) (hN : n = N * k) :
    Calls Tryz.prog 16 #[ruleV k r a n c] W fun e w' => e = .returned (.tuple #[.int .i64 (N : Int), .nilIface]) ∧ Below W.heap.size W w' := by
  have hk := h.k1
  have H := Lib.hid h; clear h
  have HN := Lib.hid hN; clear hN
  have HR := Lib.hid hR; clear hR
  obtain ⟨Wb, hWb⟩ : ∃ Wb, W.alloc (.cells #[.int .i64 k, .int .i64 r, .slice a n c] 24) = Wb := ⟨_, rfl⟩
  have HX : Hid (Wb.cell? ⟨W.heap.size, 0, none⟩ = some (.int .i64 k) ∧ Wb.cell? ⟨W.heap.size, 1, none⟩ = some (.int .i64 r) ∧ Wb.cell? ⟨W.heap.size, 2, none⟩ = some (.slice a n c)) := by rw [← hWb]; exact ⟨by simp, by simp, by simp⟩
  have HSZ : Hid (W.heap.size < Wb.heap.size) := by show _ < _; rw [← hWb]; simp
  have HBX : Hid (Below W.heap.size W Wb) := by rw [← hWb]; exact balloc (bnil W) _
  have HWB := Lib.hid hWb; clear hWb
  go_enter Tryz.func16, Tryz.ntmps16
  go_wp2_with fail
  rw [HWB.out]
  refine (osmall_ok k r a n c l _ (HR.out.up HBX.out) H.out hn).mono ?_; rintro e w2 ⟨rfl, hb2⟩
  have x0 := (hb2.cell (p := ⟨W.heap.size, 0, none⟩) HSZ.out).trans HX.out.1
  have x1 := (hb2.cell (p := ⟨W.heap.size, 1, none⟩) HSZ.out).trans HX.out.2.1
  have x2 := (hb2.cell (p := ⟨W.heap.size, 2, none⟩) HSZ.out).trans HX.out.2.2
  have hb2W := HBX.out.trans (hb2.mono HBX.out.size)
  go_wp2_with fail
  refine (nodes_any k r N a n c _ hk HN.out (by omega)).mono ?_; rintro e w3 ⟨rfl, hb3⟩
  go_wp2
  go_ret2
  exact ⟨rfl, bstep hb2W hb3⟩
end Go.Proofs.YtiglilecmieelaaGreatDoor
