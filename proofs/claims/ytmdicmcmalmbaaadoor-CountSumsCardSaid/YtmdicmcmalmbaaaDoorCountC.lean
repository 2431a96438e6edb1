/- The contracts of count.small, symbols, Words. -/
import Derived.Test.YtmdicmcmalmbaaaDoorCountB
namespace Go.Proofs.YtmdicmcmalmbaaaDoor
open Go.RowKit
set_option linter.unusedVariables false
set_option maxRecDepth 100000

theorem under_nil (op : ByteArray) (at_ : Int) (w : World) : Calls Tryd.prog 68 #[.string op, .int .i64 at_, .nilIface] w fun e w' => e = .returned .nilIface ∧ w = w' := by
  go_enter Tryd.func68, Tryd.ntmps68
  go_wp2
  go_ret
  exact ⟨rfl, rfl⟩
theorem under_some (op : ByteArray) (at_ : Int) (t : TypeId) (p : Value) (w : World) : Calls Tryd.prog 68 #[.string op, .int .i64 at_, .iface t p] w fun e w' => ∃ g, e = .returned (.iface 108 (.pointer (some ⟨g, 0, none⟩))) ∧ Below w.heap.size w w' := by
  go_enter Tryd.func68, Tryd.ntmps68
  go_wp2
  go_ret
  exact ⟨_, rfl, balloc (bnil w) _⟩
/-- an error -/
def ErrOne (W : World) (e : Ending) (w' : World) : Prop := ∃ g, e = .returned (.iface 108 (.pointer (some ⟨g, 0, none⟩))) ∧ Below W.heap.size W w'
/-- no number, and an error -/
def ErrTwo (W : World) (e : Ending) (w' : World) : Prop := ∃ g, e = .returned (.tuple #[.slice none 0 0, .iface 108 (.pointer (some ⟨g, 0, none⟩))]) ∧ Below W.heap.size W w'

theorem rsmall_err (k r : Int) (a : Option Addr) (n c : Nat) (l : List Int) (W : World) (R : Nat → Addr) (hG : Glob W R) (hR : RK .i64 W a n l) (hm : n ≤ maxLen) (h : ∀ kn rn : Nat, k = kn → r = rn → IsRule kn rn l → 256 < n) :
    Calls Tryd.prog 118 #[ruleV k r a n c] W (ErrOne W) := by
  have hm' : n ≤ 9223372036854775807 := hm
  have HH := Lib.hid h; clear h
  have HG := Lib.hid hG; clear hG
  have HR := Lib.hid hR; clear hR
  have hbx := balloc (bnil W) (.cells #[.int .i64 k, .int .i64 r, .slice a n c] 66)
  cases he : ruleErr k r l with
  | some at_ =>
    have HE := Lib.hid he; clear he
    go_enter Tryd.func118, Tryd.ntmps118
    go_wp2_with fail
    refine (rcheck_err k r a n c l _ R (HG.out.up hbx) (HR.out.up hbx) hm at_ HE.out).mono ?_; rintro e w2 ⟨g, rfl, he2, hb2⟩
    clear he2
    go_wp2
    go_ret
    exact ⟨_, rfl, hbx.trans (hb2.mono hbx.size)⟩
  | none =>
    obtain ⟨kn, rn, rfl, rfl, hI⟩ := ruleErr_none he
    have hbig := HH.out kn rn rfl rfl hI
    have HI := Lib.hid hI; clear hI he
    go_enter Tryd.func118, Tryd.ntmps118
    go_wp2_with fail
    refine (rcheck_ok kn rn a n c l _ (HR.out.up hbx) HI.out).mono ?_; rintro e w2 ⟨rfl, hb2⟩
    have x2 := (hb2.cell (p := ⟨W.heap.size, 2, none⟩) (by simp)).trans (show (W.alloc (.cells #[.int .i64 kn, .int .i64 rn, .slice a n c] 66)).cell? ⟨W.heap.size, 2, none⟩ = some (.slice a n c) by simp)
    have hb2W := hbx.trans (hb2.mono hbx.size)
    go_wp2_with fail
    refine (rule_wrong _ _ _ R (HG.out.up hb2W) (by rfl)).mono ?_; rintro e w' ⟨rfl, rfl⟩
    go_wp2
    go_ret
    exact ⟨_, rfl, balloc hb2W _⟩

theorem csmall_ok (k r : Nat) (a : Option Addr) (n c : Nat) (l : List Int) (W : World) (hR : RK .i64 W a n l) (h : IsRule k r l) (hn : n ≤ 256) :
    Calls Tryd.prog 81 #[ruleV k r a n c] W fun e w' => e = .returned .nilIface ∧ Below W.heap.size W w' := by
  have H := Lib.hid h; clear h
  have HR := Lib.hid hR; clear hR
  have hbx := balloc (bnil W) (.cells #[.int .i64 k, .int .i64 r, .slice a n c] 66)
  go_enter Tryd.func81, Tryd.ntmps81
  go_wp2_with fail
  refine (rsmall_ok k r a n c l _ (HR.out.up hbx) H.out hn).mono ?_; rintro e w2 ⟨rfl, hb2⟩
  go_wp2_with fail
  refine (under_nil _ _ _).mono ?_; rintro e w3 ⟨rfl, rfl⟩
  go_wp2
  go_ret
  exact ⟨rfl, hbx.trans (hb2.mono hbx.size)⟩
theorem csmall_err (k r : Int) (a : Option Addr) (n c : Nat) (l : List Int) (W : World) (R : Nat → Addr) (hG : Glob W R) (hR : RK .i64 W a n l) (hm : n ≤ maxLen) (h : ∀ kn rn : Nat, k = kn → r = rn → IsRule kn rn l → 256 < n) :
    Calls Tryd.prog 81 #[ruleV k r a n c] W (ErrOne W) := by
  have HH := Lib.hid h; clear h
  have HG := Lib.hid hG; clear hG
  have HR := Lib.hid hR; clear hR
  have hbx := balloc (bnil W) (.cells #[.int .i64 k, .int .i64 r, .slice a n c] 66)
  go_enter Tryd.func81, Tryd.ntmps81
  go_wp2_with fail
  refine (rsmall_err k r a n c l _ R (HG.out.up hbx) (HR.out.up hbx) hm HH.out).mono ?_; rintro e w2 ⟨g, rfl, hb2⟩
  have hb2W := hbx.trans (hb2.mono hbx.size)
  go_wp2_with fail
  refine (under_some _ _ _ _ _).mono ?_; rintro e w3 ⟨g3, rfl, hb3⟩
  go_wp2
  go_ret
  exact ⟨_, rfl, bstep hb2W hb3⟩

theorem sym_pred (k : Int) (B : Nat) (w : World) (hB : B < w.heap.size) (hcell : w.cell? ⟨B, 0, none⟩ = some (.int .i64 k)) : PredOf 120 #[.pointer (some ⟨B, 0, none⟩)] (badB k) w := by
  intro W x hb
  have hc : W.cell? ⟨B, 0, none⟩ = some (.int .i64 k) := (hb.cell (p := ⟨B, 0, none⟩) hB).trans hcell
  clear hcell
  show Calls Tryd.prog 120 #[.int .i64 x, .pointer (some ⟨B, 0, none⟩)] W _
  by_cases h0 : x < 0
  · have e : badB k x = true := badB_true.2 (.inl h0)
    rw [e]; clear e
    go_enter Tryd.func120, Tryd.ntmps120
    go_wp2
    go_ret
    exact ⟨rfl, 0, rfl⟩
  · by_cases h1 : k ≤ x
    · have e : badB k x = true := badB_true.2 (.inr h1)
      rw [e]; clear e
      go_enter Tryd.func120, Tryd.ntmps120
      go_wp2
      go_ret
      exact ⟨rfl, 0, rfl⟩
    · have e : badB k x = false := badB_false.2 ⟨by omega, by omega⟩
      rw [e]; clear e
      go_enter Tryd.func120, Tryd.ntmps120
      go_wp2
      go_ret
      exact ⟨rfl, 0, rfl⟩
/-- symbols finds nothing wrong just with a word -/
def SymPost (W : World) (ok : Prop) (e : Ending) (w' : World) : Prop := (ok ∧ e = .returned .nilIface ∧ Below W.heap.size W w') ∨ (¬ ok ∧ ErrOne W e w')
set_option maxHeartbeats 1000000 in
theorem symbols_any (k : Int) (a : Option Addr) (n c most : Nat) (l : List Int) (W : World) (R : Nat → Addr) (hG : Glob W R) (hR : RK .i64 W a n l) (hm : n ≤ maxLen) (hmo : most ≤ 4096) :
    Calls Tryd.prog 82 #[.int .i64 k, .slice a n c, .int .i64 most] W (SymPost W (n ≤ most ∧ ∀ x ∈ l, 0 ≤ x ∧ x < k)) := by
  have hm' : n ≤ 9223372036854775807 := hm
  have HG := Lib.hid hG; clear hG
  have HR := Lib.hid hR; clear hR
  have hmf : ∀ (fn : Fn) (first cap : Array Value) (w : World), (Instr.makeFunc fn first cap).run Tryd.prog w = .ok (.func fn first cap) w := fun _ _ _ _ => rfl
  have hbx := balloc (bnil W) (.cells #[.int .i64 k] 3)
  by_cases hbig : most < n
  · go_enter Tryd.func82, Tryd.ntmps82
    go_wp2_with fail
    refine (count_wrong _ _ _ R (HG.out.up hbx) (by rfl)).mono ?_; rintro e w' ⟨rfl, rfl⟩
    go_wp2
    go_ret
    exact .inr ⟨fun h => by omega, _, rfl, balloc hbx _⟩
  · have hPr : PredOf 120 #[.pointer (some ⟨W.heap.size, 0, none⟩)] (badB k) (W.alloc (.cells #[.int .i64 k] 3)) := sym_pred k W.heap.size _ (by simp) (by simp)
    have HP := Lib.hid hPr; clear hPr
    have eg : ∀ args w, (callFunc 120 args).run Tryd.prog w = .ok (.enter 120 args) w := enters_of Tryd.func120 (by kernel_rfl) rfl
    have EG := Lib.hid eg; clear eg
    obtain ⟨i, hi⟩ : ∃ i, idxI (badB k) l = i := ⟨_, rfl⟩
    have HI := Lib.hid hi; clear hi
    go_enter Tryd.func82, Tryd.ntmps82
    go_wp2_with fail
    refine (indexFunc_any a n c l 120 _ (badB k) _ (HR.out.al _) hm EG.out HP.out).mono ?_; rintro e w' ⟨rfl, m, rfl⟩
    rw [HI.out]
    by_cases h0 : 0 ≤ i
    · have hno : Hid (¬ (n ≤ most ∧ ∀ x ∈ l, 0 ≤ x ∧ x < k)) := fun h => by
        have := findIdx_none (p := badB k) (l := l) fun x hx => badB_false.2 (h.2 x hx)
        rw [HI.out] at this
        omega
      go_wp2_with fail
      refine (count_wrong _ _ _ R ((HG.out.alloc _).drewN) (by rfl)).mono ?_; rintro e w' ⟨rfl, rfl⟩
      go_wp2
      go_ret
      exact .inr ⟨hno.out, _, rfl, balloc (bdrewN hbx _) _⟩
    · have hyes : Hid (n ≤ most ∧ ∀ x ∈ l, 0 ≤ x ∧ x < k) := ⟨by omega, fun x hx => badB_false.1 (idxI_neg (by rw [HI.out]; exact h0) x hx)⟩
      go_wp2
      go_ret
      exact .inl ⟨hyes.out, rfl, bdrewN hbx _⟩
end Go.Proofs.YtmdicmcmalmbaaaDoor
