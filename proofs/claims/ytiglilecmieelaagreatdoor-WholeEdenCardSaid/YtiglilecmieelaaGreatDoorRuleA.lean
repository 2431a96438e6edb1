/- The contracts of rule.Size, odd, Check, Small. -/
import Derived.Test.YtiglilecmieelaaGreatDoorIdx
import Derived.Test.YtiglilecmieelaaGreatDoorBase
import Derived.WalkKit
import Derived.Deep.RegionWith
import Derived.Shelf.Abstract
import Derived.Lib.Hide
namespace Go.Proofs.YtiglilecmieelaaGreatDoor
open Go.RowKit
set_option linter.unusedVariables false
set_option maxRecDepth 100000

theorem rpow_le {k e : Nat} (hk : k ≤ 4) (he : e ≤ 7) : k ^ e ≤ 16384 := by
  rcases Nat.eq_zero_or_pos k with rfl | h0
  · rcases Nat.eq_zero_or_pos e with rfl | h1
    · decide
    · rw [Nat.zero_pow h1]; omega
  · exact Nat.le_trans (Nat.pow_le_pow_left hk e) (Nat.le_trans (Nat.pow_le_pow_right (by decide) he) (by decide))

set_option maxHeartbeats 2000000 in
theorem size_ok (k r p0 : Nat) (W : World) (k1 : 1 ≤ k) (k4 : k ≤ 4) (r3 : r ≤ 3) (hp0 : p0 = k ^ (2 * r + 1)) :
    Calls Tryz.prog 80 #[.int .i64 k, .int .i64 r] W fun e w' => e = .returned (.tuple #[.int .i64 (p0 : Int), .nilIface]) ∧ W = w' := by
  have HP0 := Lib.hid hp0; clear hp0
  go_enter Tryz.func80, Tryz.ntmps80
  go_wp2_with fail
  go_loop [6, 25] (fun nx ix => ∃ i p : Nat, i ≤ 2 * r ∧ ix = .int .i64 i ∧ nx = .int .i64 p ∧ Hid (p = k ^ (i + 1))) (fun _ ix => 2 * r - (intOf ix).toNat)
  case atStart => exact ⟨0, k, by omega, rfl, rfl, (Nat.pow_one k).symm⟩
  case round =>
    obtain ⟨i, p, hi, rfl, rfl, HP⟩ := hrel
    by_cases hlt : i < 2 * r
    · have hp : p ≤ 16384 := by rw [HP.out]; exact rpow_le k4 (by omega)
      have hpk : p * k ≤ 16384 * 4 := Nat.mul_le_mul hp k4
      have q0 : (0 : Int) ≤ (p : Int) * (k : Int) := by rw [← Int.natCast_mul]; omega
      have q1 : (p : Int) * (k : Int) ≤ 65536 := by rw [← Int.natCast_mul]; omega
      have hlt2 : (i : Int) < 2 * (r : Int) := by omega
      go_wp2
      go_round
      case rel => exact ⟨i + 1, p * k, by omega, by go_num, by go_num, by show _ = _; rw [HP.out, ← Nat.pow_succ]⟩
      case measure => simp [intOf]; omega
    · obtain rfl : i = 2 * r := by omega
      obtain rfl : p0 = p := HP0.out.trans HP.out.symm
      have hge : ¬ ((2 * r : Nat) : Int) < 2 * (r : Int) := by omega
      go_wp2
      go_ret2
      exact ⟨rfl, rfl⟩
theorem size_err (k r : Int) (W : World) (R : Nat → Addr) (hG : Glob W R) (h : k < 1 ∨ 4 < k ∨ r < 0 ∨ 3 < r) :
    Calls Tryz.prog 80 #[.int .i64 k, .int .i64 r] W fun e w' => ∃ g, e = .returned (.tuple #[.int .i64 0, .iface 75 (.pointer (some ⟨g, 0, none⟩))]) ∧ IsErr W.heap.size R w' (.iface 75 (.pointer (some ⟨g, 0, none⟩))) opRule 0 3 ∧ Below W.heap.size W w' := by
  have HG := Lib.hid hG; clear hG
  by_cases h1 : k < 1
  · go_enter Tryz.func80, Tryz.ntmps80
    go_wp2_with fail
    refine (rule_wrong _ _ _ R HG.out rfl).mono ?_; rintro e w' ⟨rfl, rfl⟩
    go_wp2
    go_ret2
    exact ⟨_, rfl, isErr_new (Nat.le_refl _), balloc (bnil W) _⟩
  · by_cases h2 : 4 < k
    · go_enter Tryz.func80, Tryz.ntmps80
      go_wp2_with fail
      refine (rule_wrong _ _ _ R HG.out rfl).mono ?_; rintro e w' ⟨rfl, rfl⟩
      go_wp2
      go_ret2
      exact ⟨_, rfl, isErr_new (Nat.le_refl _), balloc (bnil W) _⟩
    · by_cases h3 : r < 0
      · go_enter Tryz.func80, Tryz.ntmps80
        go_wp2_with fail
        refine (rule_wrong _ _ _ R HG.out rfl).mono ?_; rintro e w' ⟨rfl, rfl⟩
        go_wp2
        go_ret2
        exact ⟨_, rfl, isErr_new (Nat.le_refl _), balloc (bnil W) _⟩
      · have h4 : 3 < r := by omega
        clear h
        go_enter Tryz.func80, Tryz.ntmps80
        go_wp2_with fail
        refine (rule_wrong _ _ _ R HG.out rfl).mono ?_; rintro e w' ⟨rfl, rfl⟩
        go_wp2
        go_ret2
        exact ⟨_, rfl, isErr_new (Nat.le_refl _), balloc (bnil W) _⟩

theorem odd_pred (k : Int) (B : Nat) (w : World) (hB : B < w.heap.size) (hcell : w.cell? ⟨B, 0, none⟩ = some (.int .i64 k)) : PredOf 91 #[.pointer (some ⟨B, 0, none⟩)] (badB k) w := by
  intro W x hb
  have hc : W.cell? ⟨B, 0, none⟩ = some (.int .i64 k) := (hb.cell (p := ⟨B, 0, none⟩) hB).trans hcell
  clear hcell
  show Calls Tryz.prog 91 #[.int .i64 x, .pointer (some ⟨B, 0, none⟩)] W _
  by_cases h0 : x < 0
  · have e : badB k x = true := badB_true.2 (.inl h0)
    rw [e]; clear e
    go_enter Tryz.func91, Tryz.ntmps91
    go_wp2
    go_ret
    exact ⟨rfl, 0, rfl⟩
  · by_cases h1 : k ≤ x
    · have e : badB k x = true := badB_true.2 (.inr h1)
      rw [e]; clear e
      go_enter Tryz.func91, Tryz.ntmps91
      go_wp2
      go_ret
      exact ⟨rfl, 0, rfl⟩
    · have e : badB k x = false := badB_false.2 ⟨by omega, by omega⟩
      rw [e]; clear e
      go_enter Tryz.func91, Tryz.ntmps91
      go_wp2
      go_ret
      exact ⟨rfl, 0, rfl⟩

set_option maxHeartbeats 1000000 in
theorem odd_any (k : Int) (a : Option Addr) (n c : Nat) (l : List Int) (W : World) (hR : RK .i64 W a n l) (hm : n ≤ maxLen) :
    Calls Tryz.prog 81 #[.int .i64 k, .slice a n c] W fun e w' => e = .returned (.int .i64 (idxI (badB k) l)) ∧ Below W.heap.size W w' := by
  have HR := Lib.hid hR; clear hR
  have hmf : ∀ (fn : Fn) (first cap : Array Value) (w : World), (Instr.makeFunc fn first cap).run Tryz.prog w = .ok (.func fn first cap) w := fun _ _ _ _ => rfl
  have hPr : PredOf 91 #[.pointer (some ⟨W.heap.size, 0, none⟩)] (badB k) (W.alloc (.cells #[.int .i64 k] 3)) := odd_pred k W.heap.size _ (by simp) (by simp)
  have HP := Lib.hid hPr; clear hPr
  have eg : ∀ args w, (callFunc 91 args).run Tryz.prog w = .ok (.enter 91 args) w := enters_of Tryz.func91 (by kernel_rfl) rfl
  have EG := Lib.hid eg; clear eg
  generalize hi : idxI (badB k) l = i at *
  have HI := Lib.hid hi; clear hi
  go_enter Tryz.func81, Tryz.ntmps81
  go_wp2_with fail
  refine (indexFunc_any a n c l 91 _ (badB k) _ (HR.out.al _) hm EG.out HP.out).mono ?_; rintro e w' ⟨rfl, m, rfl⟩
  rw [HI.out]
  go_wp2
  go_ret
  exact ⟨rfl, bdrewN (balloc (bnil W) _) _⟩

/-- a rule's fault: its place (the number is ErrRule) -/
def ruleErr (k r : Int) (l : List Int) : Option Int :=
  if k < 1 ∨ 4 < k then some 0 else if r < 0 ∨ 3 < r then some 1 else if l.length ≠ k.toNat ^ (2 * r.toNat + 1) then some 2 else if 0 ≤ idxI (badB k) l then some (3 + idxI (badB k) l) else none
/-- what a rule without fault is -/
structure IsRule (k r : Nat) (l : List Int) : Prop where
  k1 : 1 ≤ k
  k4 : k ≤ 4
  r3 : r ≤ 3
  len : l.length = k ^ (2 * r + 1)
  sym : ∀ x ∈ l, 0 ≤ x ∧ x < (k : Int)
theorem ruleErr_none {k r : Int} {l : List Int} (h : ruleErr k r l = none) : ∃ kn rn : Nat, k = (kn : Int) ∧ r = (rn : Int) ∧ IsRule kn rn l := by
  unfold ruleErr at h
  split at h
  · cases h
  split at h
  · cases h
  split at h
  · cases h
  split at h
  · cases h
  rename_i h1 h2 h3 h4
  refine ⟨k.toNat, r.toNat, by omega, by omega, ⟨by omega, by omega, by omega, by omega, fun x hx => ?_⟩⟩
  have := badB_false.1 (idxI_neg h4 x hx)
  omega
/-- a rule's value -/
abbrev ruleV (k r : Int) (a : Option Addr) (n c : Nat) : Value := .agg #[.int .i64 k, .int .i64 r, .slice a n c]

set_option maxHeartbeats 2000000 in
theorem rcheck_ok (k r : Nat) (a : Option Addr) (n c : Nat) (l : List Int) (W : World) (hR : RK .i64 W a n l) (h : IsRule k r l) :
    Calls Tryz.prog 62 #[ruleV k r a n c] W fun e w' => e = .returned .nilIface ∧ Below W.heap.size W w' := by
  have hn : n = k ^ (2 * r + 1) := hR.len.trans h.len
  have hnb : n ≤ 16384 := by rw [hn]; exact rpow_le h.k4 (by have := h.r3; omega)
  have k1 := h.k1
  have k4 := h.k4
  have r3 := h.r3
  have hi : idxI (badB (k : Int)) l = -1 := findIdx_none fun x hx => badB_false.2 (h.sym x hx)
  have HN := Lib.hid hn; clear hn
  have HI := Lib.hid hi; clear hi
  have HR := Lib.hid hR; clear hR
  clear h
  go_enter Tryz.func62, Tryz.ntmps62
  go_wp2_with fail
  refine (size_ok k r n _ k1 k4 r3 HN.out).mono ?_; rintro e w' ⟨rfl, rfl⟩
  go_wp2_with fail
  refine (odd_any (k : Int) a n c l _ (HR.out.al _) (by unfold maxLen; omega)).mono ?_; rintro e w2 ⟨rfl, hb2⟩
  rw [HI.out]
  go_wp2
  go_ret
  exact ⟨rfl, (balloc (bnil W) _).trans (hb2.mono (by simp))⟩

theorem rcheck_err (k r : Int) (a : Option Addr) (n c : Nat) (l : List Int) (W : World) (R : Nat → Addr) (hG : Glob W R) (hR : RK .i64 W a n l) (hm : n ≤ maxLen) (at_ : Int) (h : ruleErr k r l = some at_) :
    Calls Tryz.prog 62 #[ruleV k r a n c] W fun e w' => ∃ g, e = .returned (.iface 75 (.pointer (some ⟨g, 0, none⟩))) ∧ IsErr W.heap.size R w' (.iface 75 (.pointer (some ⟨g, 0, none⟩))) opRule at_ 1 ∧ Below W.heap.size W w' := by
  have hm' : n ≤ 9223372036854775807 := hm
  have HL := Lib.hid hR.len
  have HG := Lib.hid hG; clear hG
  have HR := Lib.hid hR; clear hR
  have hbx := balloc (bnil W) (.cells #[.int .i64 k, .int .i64 r, .slice a n c] 24)
  unfold ruleErr at h
  split at h
  · rename_i h1
    cases h
    by_cases h2 : k < 1
    · clear h1
      go_enter Tryz.func62, Tryz.ntmps62
      go_wp2_with fail
      refine (rule_wrong _ _ _ R (HG.out.up hbx) (by rfl)).mono ?_; rintro e w' ⟨rfl, rfl⟩
      go_wp2
      go_ret
      exact ⟨_, rfl, isErr_at (by simp) hbx.size, balloc hbx _⟩
    · have h3 : 4 < k := by omega
      clear h1
      go_enter Tryz.func62, Tryz.ntmps62
      go_wp2_with fail
      refine (rule_wrong _ _ _ R (HG.out.up hbx) (by rfl)).mono ?_; rintro e w' ⟨rfl, rfl⟩
      go_wp2
      go_ret
      exact ⟨_, rfl, isErr_at (by simp) hbx.size, balloc hbx _⟩
  · rename_i h1
    have k1 : ¬ k < 1 := by omega
    have k4 : ¬ 4 < k := by omega
    clear h1
    split at h
    · rename_i h2
      cases h
      have HS : Hid (k < 1 ∨ 4 < k ∨ r < 0 ∨ 3 < r) := .inr (.inr h2)
      clear h2
      go_enter Tryz.func62, Tryz.ntmps62
      go_wp2_with fail
      refine (size_err k r _ R (HG.out.up hbx) HS.out).mono ?_; rintro e w2 ⟨g2, rfl, he2, hb2⟩
      clear he2
      have hb2W := hbx.trans (hb2.mono hbx.size)
      go_wp2_with fail
      refine (rule_wrong _ _ _ R (HG.out.up hb2W) (by rfl)).mono ?_; rintro e w' ⟨rfl, rfl⟩
      go_wp2
      go_ret
      exact ⟨_, rfl, isErr_at rfl hb2W.size, balloc hb2W _⟩
    · rename_i h2
      obtain ⟨kn, rfl⟩ : ∃ kn : Nat, k = (kn : Int) := ⟨k.toNat, by omega⟩
      obtain ⟨rn, rfl⟩ : ∃ rn : Nat, r = (rn : Int) := ⟨r.toNat, by omega⟩
      have q1 : 1 ≤ kn := by omega
      have q4 : kn ≤ 4 := by omega
      have q3 : rn ≤ 3 := by omega
      simp only [Int.toNat_natCast] at h
      clear h2 k1 k4
      obtain ⟨p, hp⟩ : ∃ p, p = kn ^ (2 * rn + 1) := ⟨_, rfl⟩
      have HP := Lib.hid hp; clear hp
      split at h
      · rename_i h3
        cases h
        have hnp : n ≠ p := by rw [HP.out, HL.out]; exact h3
        have hne : ((n : Int) != (p : Int)) = true := by simp; omega
        clear h3 hnp
        go_enter Tryz.func62, Tryz.ntmps62
        go_wp2_with fail
        refine (size_ok kn rn p _ q1 q4 q3 HP.out).mono ?_; rintro e w' ⟨rfl, rfl⟩
        go_wp2_with fail
        refine (rule_wrong _ _ _ R (HG.out.up hbx) (by rfl)).mono ?_; rintro e w' ⟨rfl, rfl⟩
        go_wp2
        go_ret
        exact ⟨_, rfl, isErr_at (by simp) hbx.size, balloc hbx _⟩
      · rename_i h3
        obtain rfl : n = p := by rw [HP.out, HL.out]; omega
        clear h3
        split at h
        · rename_i h4
          cases h
          obtain ⟨i, hi⟩ : ∃ i, idxI (badB (kn : Int)) l = i := ⟨_, rfl⟩
          have hile : i ≤ 9223372036854775000 := by
            have : i < (n : Int) ∨ i = -1 := by
              rw [← hi]
              unfold idxI
              split
              · rename_i q hq
                have := (List.findIdx?_eq_some_iff_getElem.1 hq).1
                have := HR.out.len
                left; omega
              · right; rfl
            have : n ≤ 16384 := by rw [HP.out]; exact rpow_le q4 (by omega)
            omega
          rw [hi] at h4 ⊢
          have HI := Lib.hid hi; clear hi
          go_enter Tryz.func62, Tryz.ntmps62
          go_wp2_with fail
          refine (size_ok kn rn n _ q1 q4 q3 HP.out).mono ?_; rintro e w' ⟨rfl, rfl⟩
          go_wp2_with fail
          refine (odd_any (kn : Int) a n c l _ (HR.out.al _) hm).mono ?_; rintro e w2 ⟨rfl, hb2⟩
          rw [HI.out]
          have hb2W := hbx.trans (hb2.mono hbx.size)
          go_wp2_with fail
          refine (rule_wrong _ _ _ R (HG.out.up hb2W) (by rfl)).mono ?_; rintro e w' ⟨rfl, rfl⟩
          go_wp2
          go_ret
          exact ⟨_, rfl, isErr_at rfl hb2W.size, balloc hb2W _⟩
        · cases h
theorem rsmall_ok (k r : Nat) (a : Option Addr) (n c : Nat) (l : List Int) (W : World) (hR : RK .i64 W a n l) (h : IsRule k r l) (hn : n ≤ 256) :
    Calls Tryz.prog 53 #[ruleV k r a n c] W fun e w' => e = .returned .nilIface ∧ Below W.heap.size W w' := by
  have H := Lib.hid h; clear h
  have HR := Lib.hid hR; clear hR
  have hbx := balloc (bnil W) (.cells #[.int .i64 k, .int .i64 r, .slice a n c] 24)
  go_enter Tryz.func53, Tryz.ntmps53
  go_wp2_with fail
  refine (rcheck_ok k r a n c l _ (HR.out.up hbx) H.out).mono ?_; rintro e w2 ⟨rfl, hb2⟩
  have x2 := (hb2.cell (p := ⟨W.heap.size, 2, none⟩) (by simp)).trans (show (W.alloc (.cells #[.int .i64 k, .int .i64 r, .slice a n c] 24)).cell? ⟨W.heap.size, 2, none⟩ = some (.slice a n c) by simp)
  go_wp2
  go_ret
  exact ⟨rfl, hbx.trans (hb2.mono hbx.size)⟩
end Go.Proofs.YtiglilecmieelaaGreatDoor
