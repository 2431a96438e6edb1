/- The rule's fault as a chain; errors.Unwrap; package subset: told. -/
import Derived.Test.YtiglilecmieelaaGreatDoorErrF
import Derived.Test.YtiglilecmieelaaGreatDoorOvQ
import Derived.Test.YtiglilecmieelaaGreatDoorBagG
namespace Go.Proofs.YtiglilecmieelaaGreatDoor
open Go.RowKit
set_option linter.unusedVariables false
set_option maxRecDepth 100000

theorem rix_lt (n : Int) : rix n < 12 := by
  unfold rix
  split
  · decide
  split
  · decide
  split
  · decide
  split
  · decide
  split
  · decide
  split
  · decide
  split
  · decide
  split
  · decide
  split
  · decide
  split
  · decide
  split <;> decide
/-- the rule's fault -/
def RuleF (w : World) (R : Nat → Addr) (g : Nat) : Prop := ∃ (at_ : Int) (x : Nat), x < 12 ∧ w.heap[g]? = some (faultObj opRule at_ (.iface 172 (.pointer (some (R x)))))
theorem RuleF.up {w w' : World} {R : Nat → Addr} {g : Nat} (h : RuleF w R g) (hb : Below w.heap.size w w') : RuleF w' R g := by
  obtain ⟨a, x, h1, h2⟩ := h
  exact ⟨a, x, h1, (hb.block _ (heap_ltR h2)).trans h2⟩
def RErr (W : World) (R : Nat → Addr) (e : Ending) (w' : World) : Prop := ∃ g, e = .returned (.iface 75 (.pointer (some ⟨g, 0, none⟩))) ∧ RuleF w' R g ∧ Below W.heap.size W w'
theorem rsmall_errC (k r : Int) (a : Option Addr) (n c : Nat) (l : List Int) (W : World) (R : Nat → Addr) (hG : Glob W R) (hR : RK .i64 W a n l) (hm : n ≤ maxLen) (h : ∀ kn rn : Nat, k = kn → r = rn → IsRule kn rn l → 256 < n) :
    Calls Tryz.prog 53 #[ruleV k r a n c] W (RErr W R) := by
  have hm' : n ≤ 9223372036854775807 := hm
  have HH := Lib.hid h; clear h
  have HG := Lib.hid hG; clear hG
  have HR := Lib.hid hR; clear hR
  have hbx := balloc (bnil W) (.cells #[.int .i64 k, .int .i64 r, .slice a n c] 24)
  cases he : ruleErr k r l with
  | some at_ =>
    have HE := Lib.hid he; clear he
    go_enter Tryz.func53, Tryz.ntmps53
    go_wp2_with fail
    refine (rcheck_err k r a n c l _ R (HG.out.up hbx) (HR.out.up hbx) hm at_ HE.out).mono ?_; rintro e w2 ⟨g, rfl, he2, hb2⟩
    have HF : Hid (RuleF w2 R g) := by
      obtain ⟨g', h1, _, h2⟩ := he2
      cases h1
      exact ⟨at_, _, rix_lt 1, h2⟩
    clear he2
    go_wp2
    go_ret
    exact ⟨_, rfl, HF.out, hbx.trans (hb2.mono hbx.size)⟩
  | none =>
    obtain ⟨kn, rn, rfl, rfl, hI⟩ := ruleErr_none he
    have hbig := HH.out kn rn rfl rfl hI
    have HI := Lib.hid hI; clear hI he
    go_enter Tryz.func53, Tryz.ntmps53
    go_wp2_with fail
    refine (rcheck_ok kn rn a n c l _ (HR.out.up hbx) HI.out).mono ?_; rintro e w2 ⟨rfl, hb2⟩
    have x2 := (hb2.cell (p := ⟨W.heap.size, 2, none⟩) (by simp)).trans (show (W.alloc (.cells #[.int .i64 kn, .int .i64 rn, .slice a n c] 24)).cell? ⟨W.heap.size, 2, none⟩ = some (.slice a n c) by simp)
    have hb2W := hbx.trans (hb2.mono hbx.size)
    go_wp2_with fail
    refine (rule_wrong _ _ _ R (HG.out.up hb2W) (by rfl)).mono ?_; rintro e w' ⟨rfl, rfl⟩
    go_wp2
    go_ret
    exact ⟨_, rfl, ⟨_, _, rix_lt _, heap_alloc_new w2 _⟩, balloc hb2W _⟩
/-- the fault of overlap over the rule's -/
def OverF (w : World) (R : Nat → Addr) (g : Nat) : Prop := ∃ (at_ : Int) (g1 : Nat), w.heap[g]? = some (faultObj opOverlap at_ (.iface 75 (.pointer (some ⟨g1, 0, none⟩)))) ∧ RuleF w R g1
theorem OverF.up {w w' : World} {R : Nat → Addr} {g : Nat} (h : OverF w R g) (hb : Below w.heap.size w w') : OverF w' R g := by
  obtain ⟨a, x, h1, h2⟩ := h
  exact ⟨a, x, (hb.block _ (heap_ltR h1)).trans h1, h2.up hb⟩
theorem osmall_errC (k r : Int) (a : Option Addr) (n c : Nat) (l : List Int) (W : World) (R : Nat → Addr) (hG : Glob W R) (hR : RK .i64 W a n l) (hm : n ≤ maxLen) (h : ∀ kn rn : Nat, k = kn → r = rn → IsRule kn rn l → 256 < n) :
    Calls Tryz.prog 41 #[ruleV k r a n c] W fun e w' => ∃ g, e = .returned (.iface 75 (.pointer (some ⟨g, 0, none⟩))) ∧ OverF w' R g ∧ Below W.heap.size W w' := by
  have HH := Lib.hid h; clear h
  have HG := Lib.hid hG; clear hG
  have HR := Lib.hid hR; clear hR
  have hbx := balloc (bnil W) (.cells #[.int .i64 k, .int .i64 r, .slice a n c] 24)
  go_enter Tryz.func41, Tryz.ntmps41
  go_wp2_with fail
  refine (rsmall_errC k r a n c l _ R (HG.out.up hbx) (HR.out.up hbx) hm HH.out).mono ?_; rintro e w2 ⟨g, rfl, hf, hb2⟩
  have HF := Lib.hid hf
  have hb2W := hbx.trans (hb2.mono hbx.size)
  clear hf
  go_wp2_with fail
  refine (undr_some _ _ _ _ _).mono ?_; rintro e w3 ⟨rfl, rfl⟩
  go_wp2
  go_ret
  exact ⟨_, rfl, ⟨_, g, heap_alloc_new w2 _, HF.out.up (balloc (bnil w2) _)⟩, balloc hb2W _⟩
set_option maxHeartbeats 1000000 in
theorem Nodes_errC (k r : Int) (a : Option Addr) (n c : Nat) (l : List Int) (W : World) (R : Nat → Addr) (hG : Glob W R) (hR : RK .i64 W a n l) (hm : n ≤ maxLen) (h : ∀ kn rn : Nat, k = kn → r = rn → IsRule kn rn l → 256 < n) :
    Calls Tryz.prog 16 #[ruleV k r a n c] W fun e w' => ∃ g, e = .returned (.tuple #[.int .i64 0, .iface 75 (.pointer (some ⟨g, 0, none⟩))]) ∧ OverF w' R g ∧ Below W.heap.size W w' := by
  obtain ⟨w0, hw0⟩ : ∃ w0, W.alloc (.cells #[.int .i64 k, .int .i64 r, .slice a n c] 24) = w0 := ⟨_, rfl⟩
  have HBX : Hid (Below W.heap.size W w0) := by show Below _ _ _; rw [← hw0]; exact balloc (bnil W) _
  have HC := Lib.hid (osmall_errC k r a n c l w0 R (hG.up HBX.out) (hR.up HBX.out) hm h)
  have HWB := Lib.hid hw0
  clear hG hR hm h hw0
  go_enter Tryz.func16, Tryz.ntmps16
  go_wp2_with fail
  rw [HWB.out]
  refine HC.out.mono ?_; rintro e w1 ⟨g, rfl, hf, hb⟩
  have HB := Lib.hid (bstep HBX.out hb)
  have HF := Lib.hid hf
  clear hb hf
  go_wp2
  go_ret2
  exact ⟨g, rfl, HF.out, HB.out⟩
theorem unwrap_fault (g : Nat) (op : ByteArray) (at_ : Int) (x : Value) (w : World) (h : w.heap[g]? = some (faultObj op at_ x)) :
    Calls Tryz.prog 17 #[.iface 75 (.pointer (some ⟨g, 0, none⟩))] w fun e w' => e = .returned x ∧ w' = w := by
  have uF := hasUnwrapF
  have mU := methodUnwrap
  obtain ⟨_, _, c2⟩ := cell_fault h
  clear h
  go_enter Tryz.func17, Tryz.ntmps17
  go_wp2
  go_ret
  exact ⟨rfl, rfl⟩
set_option maxHeartbeats 2000000 in
/-- the walk's error is told: some fault -/
theorem told_any (g : Nat) (y : ByteArray × Int) (l : List (ByteArray × Int)) (a : Addr) (x : Value) (W : World) (R : Nat → Addr) (hE : Env W R) (hg : W.heap[g]? = some (faultObj y.1 y.2 x)) (hc : Chain W x l a) :
    Calls Tryz.prog 10 #[.iface 75 (.pointer (some ⟨g, 0, none⟩))] W fun e w' => ∃ g', e = .returned (.iface 75 (.pointer (some ⟨g', 0, none⟩))) ∧ Below W.heap.size W w' := by
  have hch : Chain W (.iface 75 (.pointer (some ⟨g, 0, none⟩))) (y :: l) a := ⟨g, x, rfl, hg, hc⟩
  obtain ⟨cb, tb, hb⟩ := hE.sent.row 3 (by decide)
  have HIS := Lib.hid (is_any _ _ a (R 3) W cb tb hch hb)
  have x3 := hE.sent.glob 3 (by decide)
  simp only [gix, List.getD_cons_zero, List.getD_cons_succ] at x3
  obtain ⟨w1, hw1⟩ : ∃ w1, W.alloc (.cells #[.pointer none] 75) = w1 := ⟨_, rfl⟩
  have hb1 : Below W.heap.size W w1 := by rw [← hw1]; exact balloc (bnil W) _
  have ht1 : w1.cell? ⟨W.heap.size, 0, none⟩ = some (.pointer none) := by rw [← hw1]; simp
  have hn1 : w1.heap[W.heap.size]? = some (.cells #[.pointer none] 75) := by rw [← hw1]; exact heap_alloc_new W _
  have hf1 : w1.frozen? ⟨W.heap.size, 0, none⟩ = false := by simp [World.frozen?, hn1]
  have HAS := Lib.hid (as_hit ⟨g, 0, none⟩ ⟨W.heap.size, 0, none⟩ (.pointer none) w1 (hE.et.up hb1) ht1 hf1)
  obtain ⟨w5, hw5⟩ : ∃ w5, ((((w1.alloc (.cells #[.pointer (some ⟨W.heap.size, 0, none⟩)] 76)).alloc (.cells #[.pointer (some ⟨13, 76, none⟩), .pointer (some ⟨w1.heap.size, 0, none⟩), .int .u64 150] 65)).alloc (.cells #[.pointer (some ⟨13, 76, none⟩), .pointer (some ⟨w1.heap.size, 0, none⟩), .int .u64 150] 65)).alloc (.cells #[.pointer (some ⟨g, 0, none⟩)] 75)).setCell ⟨W.heap.size, 0, none⟩ (.pointer (some ⟨g, 0, none⟩)) = w5 := ⟨_, rfl⟩
  have hal : Below w1.heap.size w1 ((((w1.alloc (.cells #[.pointer (some ⟨W.heap.size, 0, none⟩)] 76)).alloc (.cells #[.pointer (some ⟨13, 76, none⟩), .pointer (some ⟨w1.heap.size, 0, none⟩), .int .u64 150] 65)).alloc (.cells #[.pointer (some ⟨13, 76, none⟩), .pointer (some ⟨w1.heap.size, 0, none⟩), .int .u64 150] 65)).alloc (.cells #[.pointer (some ⟨g, 0, none⟩)] 75)) := balloc (balloc (balloc (balloc (bnil w1) _) _) _) _
  have hvar := (hal.block W.heap.size (by rw [← hw1]; simp)).trans (show w1.heap[W.heap.size]? = some (.cells #[.pointer none] 75) by rw [← hw1]; exact heap_alloc_new W _)
  have hv5 : w5.cell? ⟨W.heap.size, 0, none⟩ = some (.pointer (some ⟨g, 0, none⟩)) := by
    have : w5.heap[W.heap.size]? = some (.cells #[.pointer (some ⟨g, 0, none⟩)] 75) := by rw [← hw5]; simp [World.setCell, Array.getElem?_modify, hvar]
    simp [World.cell?, this]
  have HB5 : Hid (Below W.heap.size W w5) := by show Below _ _ _; rw [← hw5]; exact (bstep hb1 hal).setCell (p := ⟨W.heap.size, 0, none⟩) (Nat.le_refl _) _
  have HE5 := Lib.hid (hE.up HB5.out)
  obtain ⟨c0, c1, c2⟩ := cell_fault ((HB5.out.block _ (heap_ltR hg)).trans hg)
  have HW1 := Lib.hid hw1
  have HW5 := Lib.hid hw5
  obtain ⟨ops, hops⟩ : ∃ o, y.1 = o := ⟨_, rfl⟩
  rw [hops] at c0
  clear hE hg hc hch hb hw1 hw5 hb1 ht1 hf1 hn1 hal hvar hops c1 c2
  cases hd : decide (a = R 3) with
  | false =>
    rw [hd] at HIS
    clear hd
    go_enter Tryz.func10, Tryz.ntmps10
    go_wp2_with fail
    refine HIS.out.mono ?_; rintro e w' ⟨rfl, rfl⟩
    go_wp2
    go_ret
    exact ⟨g, rfl, bnil _⟩
  | true =>
    rw [hd] at HIS
    clear hd
    go_enter Tryz.func10, Tryz.ntmps10
    go_wp2_with fail
    refine HIS.out.mono ?_; rintro e w' ⟨rfl, rfl⟩
    go_wp2_with fail
    rw [HW1.out]
    refine HAS.out.mono ?_; rintro e w' ⟨rfl, hw'⟩
    rw [hw', HW5.out]
    clear hw' x3
    go_wp2_with (first | (go_at_call 27; refine (new_err _ _ _ _ R HE5.out.sent.glob (by rfl)).mono ?_; rintro e w6 ⟨rfl, rfl⟩))
    all_goals
      first
        | (go_ret; exact ⟨_, rfl, balloc HB5.out _⟩)
        | (go_ret; exact ⟨g, rfl, HB5.out⟩)
end Go.Proofs.YtiglilecmieelaaGreatDoor
