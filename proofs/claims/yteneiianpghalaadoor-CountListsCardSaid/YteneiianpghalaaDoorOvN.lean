/- overlap.small, nodes, Nodes, check. -/
import Derived.Test.YteneiianpghalaaDoorCntX
import Derived.Test.YteneiianpghalaaDoorMatF
import Derived.Deep.QuietTactic
import Derived.BigQuiet
namespace Go.Proofs.YteneiianpghalaaDoor
open Go.RowKit
set_option linter.unusedVariables false
set_option maxRecDepth 100000

theorem osmall_ok (k r : Nat) (a : Option Addr) (n c : Nat) (l : List Int) (W : World) (hR : RK .i64 W a n l) (h : IsRule k r l) (hn : n ≤ 256) :
    Calls Tryd.prog 88 #[ruleV k r a n c] W fun e w' => e = .returned .nilIface ∧ Below W.heap.size W w' := by
  have H := Lib.hid h; clear h
  have HR := Lib.hid hR; clear hR
  have hbx := balloc (bnil W) (.cells #[.int .i64 k, .int .i64 r, .slice a n c] 24)
  go_enter Tryd.func88, Tryd.ntmps88
  go_wp2_with fail
  refine (rsmall_ok k r a n c l _ (HR.out.up hbx) H.out hn).mono ?_; rintro e w2 ⟨rfl, hb2⟩
  go_wp2_with fail
  refine (under_nil _ _ _).mono ?_; rintro e w3 ⟨rfl, rfl⟩
  go_wp2
  go_ret
  exact ⟨rfl, hbx.trans (hb2.mono hbx.size)⟩
theorem osmall_err (k r : Int) (a : Option Addr) (n c : Nat) (l : List Int) (W : World) (R : Nat → Addr) (hG : Glob W R) (hR : RK .i64 W a n l) (hm : n ≤ maxLen) (h : ∀ kn rn : Nat, k = kn → r = rn → IsRule kn rn l → 256 < n) :
    Calls Tryd.prog 88 #[ruleV k r a n c] W (ErrOne W) := by
  have HH := Lib.hid h; clear h
  have HG := Lib.hid hG; clear hG
  have HR := Lib.hid hR; clear hR
  have hbx := balloc (bnil W) (.cells #[.int .i64 k, .int .i64 r, .slice a n c] 24)
  go_enter Tryd.func88, Tryd.ntmps88
  go_wp2_with fail
  refine (rsmall_err k r a n c l _ R (HG.out.up hbx) (HR.out.up hbx) hm HH.out).mono ?_; rintro e w2 ⟨g, rfl, hb2⟩
  have hb2W := hbx.trans (hb2.mono hbx.size)
  go_wp2_with fail
  refine (under_some _ _ _ _ _).mono ?_; rintro e w3 ⟨g3, rfl, hb3⟩
  go_wp2
  go_ret
  exact ⟨_, rfl, bstep hb2W hb3⟩
theorem nodes_any (k r N : Nat) (a : Option Addr) (n c : Nat) (W : World) (hk : 1 ≤ k) (hN : n = N * k) (hn : n ≤ 16384) :
    Calls Tryd.prog 61 #[ruleV k r a n c] W fun e w' => e = .returned (.int .i64 (N : Int)) ∧ Below W.heap.size W w' := by
  have hdiv : (n : Int) / (k : Int) = (N : Int) := by rw [hN, Int.natCast_mul]; exact Int.mul_ediv_cancel _ (by omega)
  have HB := Lib.hid (balloc (bnil W) (.cells #[.int .i64 k, .int .i64 r, .slice a n c] 24))
  have kp : (0 : Int) < (k : Int) := by omega
  have n0 : (0 : Int) ≤ (n : Int) := by omega
  have hNle : N ≤ 16384 := by
    have : N * 1 ≤ N * k := Nat.mul_le_mul_left _ hk
    omega
  clear hN
  go_enter Tryd.func61, Tryd.ntmps61
  go_wp2
  go_ret
  exact ⟨rfl, HB.out⟩
theorem Nodes_ok (k r N : Nat) (a : Option Addr) (n c : Nat) (l : List Int) (W : World) (hR : RK .i64 W a n l) (h : IsRule k r l) (hn : n ≤ 256) (hN : n = N * k) :
    Calls Tryd.prog 34 #[ruleV k r a n c] W fun e w' => e = .returned (.tuple #[.int .i64 (N : Int), .nilIface]) ∧ Below W.heap.size W w' := by
  have hk := h.k1
  have H := Lib.hid h; clear h
  have HN := Lib.hid hN; clear hN
  have HR := Lib.hid hR; clear hR
  obtain ⟨Wb, hWb⟩ : ∃ Wb, W.alloc (.cells #[.int .i64 k, .int .i64 r, .slice a n c] 24) = Wb := ⟨_, rfl⟩
  have HX : Hid (Wb.cell? ⟨W.heap.size, 0, none⟩ = some (.int .i64 k) ∧ Wb.cell? ⟨W.heap.size, 1, none⟩ = some (.int .i64 r) ∧ Wb.cell? ⟨W.heap.size, 2, none⟩ = some (.slice a n c)) := by rw [← hWb]; exact ⟨by simp, by simp, by simp⟩
  have HSZ : Hid (W.heap.size < Wb.heap.size) := by show _ < _; rw [← hWb]; simp
  have HBX : Hid (Below W.heap.size W Wb) := by rw [← hWb]; exact balloc (bnil W) _
  have HWB := Lib.hid hWb; clear hWb
  go_enter Tryd.func34, Tryd.ntmps34
  go_wp2_with fail
  rw [HWB.out]
  refine (osmall_ok k r a n c l _ (HR.out.up HBX.out) H.out hn).mono ?_; rintro e w2 ⟨rfl, hb2⟩
  have x0 := (hb2.cell (p := ⟨W.heap.size, 0, none⟩) HSZ.out).trans HX.out.1
  have x1 := (hb2.cell (p := ⟨W.heap.size, 1, none⟩) HSZ.out).trans HX.out.2.1
  have x2 := (hb2.cell (p := ⟨W.heap.size, 2, none⟩) HSZ.out).trans HX.out.2.2
  have hb2W := HBX.out.trans (hb2.mono HBX.out.size)
  go_wp2_with fail
  refine (nodes_any k r N a n c _ hk HN.out (by omega)).mono ?_; rintro e w3 ⟨rfl, hb3⟩
  go_wp2
  go_ret2
  exact ⟨rfl, bstep hb2W hb3⟩

theorem ochk_pred (k : Int) (B : Nat) (w : World) (hB : B < w.heap.size) (hcell : w.cell? ⟨B, 0, none⟩ = some (.int .i64 k)) : PredOf 123 #[.pointer (some ⟨B, 0, none⟩)] (badB k) w := by
  intro W x hb
  have hc : W.cell? ⟨B, 0, none⟩ = some (.int .i64 k) := (hb.cell (p := ⟨B, 0, none⟩) hB).trans hcell
  clear hcell
  show Calls Tryd.prog 123 #[.int .i64 x, .pointer (some ⟨B, 0, none⟩)] W _
  by_cases h0 : x < 0
  · have e : badB k x = true := badB_true.2 (.inl h0)
    rw [e]; clear e
    go_enter Tryd.func123, Tryd.ntmps123
    go_wp2
    go_ret
    exact ⟨rfl, 0, rfl⟩
  · by_cases h1 : k ≤ x
    · have e : badB k x = true := badB_true.2 (.inr h1)
      rw [e]; clear e
      go_enter Tryd.func123, Tryd.ntmps123
      go_wp2
      go_ret
      exact ⟨rfl, 0, rfl⟩
    · have e : badB k x = false := badB_false.2 ⟨by omega, by omega⟩
      rw [e]; clear e
      go_enter Tryd.func123, Tryd.ntmps123
      go_wp2
      go_ret
      exact ⟨rfl, 0, rfl⟩
set_option maxHeartbeats 2000000 in
/-- overlap.check: no fault just where rule and word are right -/
theorem ocheck_any (k r : Int) (a aw : Option Addr) (n c nw cw most : Nat) (l wl : List Int) (W : World) (R : Nat → Addr) (hG : Glob W R) (hR : RK .i64 W a n l) (hW : RK .i64 W aw nw wl) (hm : n ≤ maxLen) (hmw : nw ≤ maxLen) (hmo : most ≤ 4096) :
    Calls Tryd.prog 59 #[ruleV k r a n c, .slice aw nw cw, .int .i64 most] W (SymPost W ((∃ kn rn : Nat, k = kn ∧ r = rn ∧ IsRule kn rn l ∧ n ≤ 256) ∧ nw ≤ most ∧ ∀ x ∈ wl, 0 ≤ x ∧ x < k)) := by
  have hm' : nw ≤ 9223372036854775807 := hmw
  have HG := Lib.hid hG; clear hG
  have HR := Lib.hid hR; clear hR
  have HW := Lib.hid hW; clear hW
  have hmf : ∀ (fn : Fn) (first cap : Array Value) (w : World), (Instr.makeFunc fn first cap).run Tryd.prog w = .ok (.func fn first cap) w := fun _ _ _ _ => rfl
  obtain ⟨Wb, hWb⟩ : ∃ Wb, W.alloc (.cells #[.int .i64 k, .int .i64 r, .slice a n c] 24) = Wb := ⟨_, rfl⟩
  have HX : Hid (Wb.cell? ⟨W.heap.size, 0, none⟩ = some (.int .i64 k)) := by rw [← hWb]; show World.cell? _ _ = _; simp
  have HSZ : Hid (W.heap.size < Wb.heap.size) := by show _ < _; rw [← hWb]; simp
  have HBX : Hid (Below W.heap.size W Wb) := by rw [← hWb]; exact balloc (bnil W) _
  have HWB := Lib.hid hWb; clear hWb
  by_cases hok : ∃ kn rn : Nat, k = kn ∧ r = rn ∧ IsRule kn rn l ∧ n ≤ 256
  · obtain ⟨kn, rn, rfl, rfl, hI, h256⟩ := hok
    have HI := Lib.hid hI
    clear hI
    by_cases hbig : most < nw
    · go_enter Tryd.func59, Tryd.ntmps59
      go_wp2_with fail
      rw [HWB.out]
      refine (osmall_ok kn rn a n c l _ (HR.out.up HBX.out) HI.out h256).mono ?_; rintro e w2 ⟨rfl, hb2⟩
      have hb2W := HBX.out.trans (hb2.mono HBX.out.size)
      go_wp2_with fail
      refine (overlap_wrong _ _ _ R (HG.out.up hb2W) (by rfl)).mono ?_; rintro e w' ⟨rfl, rfl⟩
      go_wp2
      go_ret
      exact .inr ⟨fun h => by omega, _, rfl, balloc hb2W _⟩
    · have eg : ∀ args w, (callFunc 123 args).run Tryd.prog w = .ok (.enter 123 args) w := enters_of Tryd.func123 (by kernel_rfl) rfl
      have EG := Lib.hid eg; clear eg
      obtain ⟨i, hi⟩ : ∃ i, idxI (badB (kn : Int)) wl = i := ⟨_, rfl⟩
      have HI2 := Lib.hid hi; clear hi
      go_enter Tryd.func59, Tryd.ntmps59
      go_wp2_with fail
      rw [HWB.out]
      refine (osmall_ok kn rn a n c l _ (HR.out.up HBX.out) HI.out h256).mono ?_; rintro e w2 ⟨rfl, hb2⟩
      have hb2W := HBX.out.trans (hb2.mono HBX.out.size)
      have hPr := ochk_pred (kn : Int) W.heap.size w2 (Nat.lt_of_lt_of_le HSZ.out hb2.size) ((hb2.cell (p := ⟨W.heap.size, 0, none⟩) HSZ.out).trans HX.out)
      have HP := Lib.hid hPr; clear hPr
      go_wp2_with fail
      refine (indexFunc_any aw nw cw wl 123 _ (badB (kn : Int)) _ (HW.out.up hb2W) hmw EG.out HP.out).mono ?_; rintro e w' ⟨rfl, m, rfl⟩
      rw [HI2.out]
      have hb3W := bdrewN hb2W m
      by_cases h0 : 0 ≤ i
      · have hno : Hid (¬ ((∃ kn' rn' : Nat, (kn : Int) = kn' ∧ (rn : Int) = rn' ∧ IsRule kn' rn' l ∧ n ≤ 256) ∧ nw ≤ most ∧ ∀ x ∈ wl, 0 ≤ x ∧ x < (kn : Int))) := fun h => by
          have := findIdx_none (p := badB (kn : Int)) (l := wl) fun x hx => badB_false.2 (h.2.2 x hx)
          rw [HI2.out] at this
          omega
        go_wp2_with fail
        refine (overlap_wrong _ _ _ R (HG.out.up hb3W) (by rfl)).mono ?_; rintro e w' ⟨rfl, rfl⟩
        go_wp2
        go_ret
        exact .inr ⟨hno.out, _, rfl, balloc hb3W _⟩
      · have hyes : Hid ((∃ kn' rn' : Nat, (kn : Int) = kn' ∧ (rn : Int) = rn' ∧ IsRule kn' rn' l ∧ n ≤ 256) ∧ nw ≤ most ∧ ∀ x ∈ wl, 0 ≤ x ∧ x < (kn : Int)) := ⟨⟨kn, rn, rfl, rfl, HI.out, h256⟩, by omega, fun x hx => badB_false.1 (idxI_neg (by rw [HI2.out]; exact h0) x hx)⟩
        go_wp2
        go_ret
        exact .inl ⟨hyes.out, rfl, hb3W⟩
  · have hbad : ∀ kn rn : Nat, k = kn → r = rn → IsRule kn rn l → 256 < n := fun kn rn h1 h2 h3 => by
      by_cases h4 : n ≤ 256
      · exact absurd ⟨kn, rn, h1, h2, h3, h4⟩ hok
      · omega
    have HBAD := Lib.hid hbad
    have HNO : Hid (¬ ((∃ kn rn : Nat, k = kn ∧ r = rn ∧ IsRule kn rn l ∧ n ≤ 256) ∧ nw ≤ most ∧ ∀ x ∈ wl, 0 ≤ x ∧ x < k)) := fun h => hok h.1
    clear hbad hok
    go_enter Tryd.func59, Tryd.ntmps59
    go_wp2_with fail
    rw [HWB.out]
    refine (osmall_err k r a n c l _ R (HG.out.up HBX.out) (HR.out.up HBX.out) hm HBAD.out).mono ?_; rintro e w2 ⟨g2, rfl, hb2⟩
    go_wp2
    go_ret
    exact .inr ⟨HNO.out, _, rfl, HBX.out.trans (hb2.mono HBX.out.size)⟩
end Go.Proofs.YteneiianpghalaaDoor
