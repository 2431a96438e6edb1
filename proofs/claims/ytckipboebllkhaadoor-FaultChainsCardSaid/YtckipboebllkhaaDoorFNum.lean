/- edenlaw01.FaultNumbers. -/
import Derived.Test.YtckipboebllkhaaDoorFltF
namespace Go.Proofs.YtckipboebllkhaaDoor
open Go.RowKit Go.Extern.Stop Go.Stop Go.Extern
set_option linter.unusedVariables false
set_option maxRecDepth 100000

def ownN : Nat → ErrT → ErrT
  | 0, t => t
  | k + 1, t => .own (ownN k t)
theorem finds_ownN (b : Addr) (t : ErrT) : ∀ k, finds b (ownN k t) = finds b t
  | 0 => rfl
  | k + 1 => finds_ownN b t k
theorem ownN_some {t : ErrT} (h : t ≠ .none) : ∀ k, ownN k t ≠ .none
  | 0 => h
  | k + 1 => by simp [ownN]
theorem code_known {R : Nat → Addr} {t : ErrT} {m : Nat} (hne : t ≠ .none) (hm : 1 ≤ m ∧ m ≤ 11 ∨ m = 99) (h : ∀ j : Nat, 1 ≤ j → j ≤ 11 → finds (R (rix (j : Int))) t = decide (m = j)) : codeF R t = m := by
  rw [codeF_some R hne]
  rcases hm with ⟨h1, h2⟩ | rfl
  · refine codeG_at (n := m) ?_ 11 1 h1 (by omega) fun j hj hj2 => ?_
    · show finds (R (rix (m : Int))) t = true
      rw [h m h1 h2]; simp
    · show finds (R (rix (j : Int))) t = false
      rw [h j hj (by omega)]; simp; omega
  · refine codeG_none 11 1 fun j hj hj2 => ?_
    show finds (R (rix (j : Int))) t = false
    rw [h j hj (by omega)]; simp; omega
theorem known_or (n : Int) : 1 ≤ known n ∧ known n ≤ 11 ∨ known n = 99 := by
  unfold known
  split
  · exact .inl (by omega)
  · exact .inr rfl
/-- the law's first error -/
def numT (R : Nat → Addr) (n : Int) : ErrT := .fault ⟨#[120]⟩ 1 (.root (R (rix n)))
theorem num_code {w : World} {R : Nat → Addr} (hS : Sent w R) (n : Int) (k : Nat) : codeF R (ownN k (numT R n)) = known n :=
  code_known (ownN_some (by simp [numT]) k) (known_or n) fun j h1 h2 => by
    rw [finds_ownN]
    exact root_finds hS n h1 h2
theorem shut_code (R : Nat → Addr) (t : ErrT) : codeF R (.shut t) = 99 :=
  code_known (by simp) (.inr rfl) fun j h1 h2 => by
    show false = _
    simp; omega
theorem both_code {w : World} {R : Nat → Addr} (hS : Sent w R) (n : Int) (k : Nat) : codeF R (.both (.root (R 10)) (ownN k (numT R n))) = min (known n) 11 := by
  have hf : ∀ j : Nat, 1 ≤ j → j ≤ 11 → finds (R (rix (j : Int))) (.both (.root (R 10)) (ownN k (numT R n))) = decide (11 = j ∨ known n = j) := fun j h1 h2 => by
    show (finds (R (rix (j : Int))) (.root (R (rix 11))) || finds (R (rix (j : Int))) (ownN k (numT R n))) = _
    rw [finds_ownN, root_finds hS 11 h1 h2]
    show (_ || finds (R (rix (j : Int))) (.root (R (rix n)))) = _
    rw [root_finds hS n h1 h2, show known 11 = 11 from rfl, Bool.decide_or]
  rw [codeF_some R (by simp)]
  have h0 := known_or n
  refine codeG_at (n := min (known n) 11) ?_ 11 1 (by omega) (by omega) fun j hj hj2 => ?_
  · show finds (R (rix ((min (known n) 11 : Nat) : Int))) _ = true
    rw [hf _ (by omega) (by omega)]
    exact decide_eq_true (by omega)
  · show finds (R (rix (j : Int))) _ = false
    rw [hf _ hj (by omega)]
    exact decide_eq_false (by omega)
theorem known_int (n : Int) (w : World) : Calls Tryd.prog 12 #[.int .i64 n] w fun e w' => e = .returned (.int .i64 (known n : Nat)) ∧ w = w' := by
  by_cases h1 : 1 ≤ n
  · by_cases h2 : n ≤ 11
    · have hk : ((known n : Nat) : Int) = n := by unfold known; rw [if_pos ⟨h1, h2⟩]; omega
      rw [hk]
      go_enter Tryd.func12, Tryd.ntmps12
      go_wp2
      go_ret
      exact ⟨rfl, rfl⟩
    · have hk : known n = 99 := by unfold known; rw [if_neg (fun h => h2 h.2)]
      rw [hk]
      have h3 : ¬ n ≤ 11 := h2
      go_enter Tryd.func12, Tryd.ntmps12
      go_wp2
      go_ret
      exact ⟨rfl, rfl⟩
  · have hk : known n = 99 := by unfold known; rw [if_neg (fun h => h1 h.1)]
    rw [hk]
    have h3 : ¬ 1 ≤ n := h1
    go_enter Tryd.func12, Tryd.ntmps12
    go_wp2
    go_ret
    exact ⟨rfl, rfl⟩
set_option maxHeartbeats 8000000 in
theorem fnum_row (n x : Int) (w : World) (R : Nat → Addr) (hE : Env w R) :
    Calls Tryd.prog 3 #[.int .i64 n, .int .i64 x] w fun e w' => e = .returned (.bool true) ∧ Below w.heap.size w w' := by
  have q1 := Int.lt_tmod_of_pos x (show (0 : Int) < 20 by omega)
  have q2 := Int.tmod_lt_of_pos x (show (0 : Int) < 20 by omega)
  obtain ⟨D, hD, hD8⟩ : ∃ D : Nat, (x.tmod 20 + 20) % 20 = (D : Int) ∧ D < 20 := ⟨((x.tmod 20 + 20) % 20).toNat, by omega, by omega⟩
  have HE := Lib.hid hE
  clear hE
  go_enter Tryd.func3, Tryd.ntmps3
  go_wp2_with fail
  refine (awake01 _ R HE.out).mono ?_; rintro e w1 ⟨rfl, hb1⟩
  have HB1 := Lib.hid hb1
  clear hb1
  go_wp2_with fail
  refine (code_all R .none .nilIface _ rfl (HE.out.sent.up HB1.out)).mono ?_; rintro e w2 ⟨rfl, hb2⟩
  have HB2 := Lib.hid (HB1.out.trans (hb2.mono HB1.out.size))
  clear hb2 HB1
  by_cases hn : n = 0
  · subst hn
    go_wp2
    go_ret
    exact ⟨rfl, HB2.out⟩
  · have hn0 : (n == 0) = false := by rw [beq_eq_false_iff_ne]; exact hn
    go_wp2_with fail
    refine (new_err _ _ n _ R (HE.out.sent.up HB2.out).glob hn0).mono ?_; rintro e w3 ⟨rfl, h3⟩
    have hv3 : TR w3 (numT R n) (.iface 57 (.pointer (some ⟨w2.heap.size, 0, none⟩))) := by rw [h3]; exact (TR.rootR (HE.out.sent.up HB2.out) n).new _ _
    have hb3 : Below w2.heap.size w2 w3 := by rw [h3]; exact balloc (bnil w2) _
    have HV3 := Lib.hid hv3
    have HB3 := Lib.hid (HB2.out.trans (hb3.mono HB2.out.size))
    clear h3 hv3 hb3 HB2
    go_wp2_with fail
    go_loopw [5, 6] (fun ev iv wr => ∃ k : Nat, k ≤ D ∧ iv = .int .i64 (k : Nat) ∧ TR wr (ownN k (numT R n)) ev ∧ Below w.heap.size w wr) (fun _ iv _ => D - (intOf iv).toNat)
    case atStart => exact ⟨0, by omega, rfl, HV3.out, HB3.out⟩
    case round =>
      clear HV3 HB3
      obtain ⟨k, hk, rfl, hv, hb⟩ := hrel
      have HV := Lib.hid hv
      have HB := Lib.hid hb
      clear hv hb
      rcases HV.out.shape with rfl | ⟨ty, p, rfl⟩
      · exact absurd (HV.out.inj (t' := .none) rfl) (ownN_some (by simp [numT]) k)
      by_cases hkD : k < D
      · have i1 : (k : Int) < (D : Int) := by omega
        have iw : IntKind.i64.wrap ((k : Int) + 1) = ((k + 1 : Nat) : Int) := by rw [IntWalk.i64_in _ (by omega)]; rfl
        go_wp2
        go_roundw
        case rel => exact ⟨k + 1, hkD, rfl, ⟨_, rfl, HV.out⟩, HB.out⟩
        case measure => simp [intOf]; omega
      · obtain rfl : k = D := by omega
        go_wp2_with fail
        refine (known_int n _).mono ?_; rintro e w4 ⟨rfl, rfl⟩
        go_wp2_with fail
        refine (code_all R _ _ _ HV.out (HE.out.sent.up HB.out)).mono ?_; rintro e w4 ⟨rfl, hb4⟩
        rw [num_code HE.out.sent]
        have HB4 := Lib.hid (HB.out.trans (hb4.mono HB.out.size))
        have HV4 := Lib.hid (HV.out.up hb4)
        clear hb4
        go_wp2_with fail
        refine (code_all R (.shut (ownN k (numT R n))) _ _ ⟨_, rfl, HV4.out⟩ (HE.out.sent.up HB4.out)).mono ?_; rintro e w5 ⟨rfl, hb5⟩
        rw [shut_code]
        have HB5 := Lib.hid (HB4.out.trans (hb5.mono HB4.out.size))
        have HV5 := Lib.hid (HV4.out.up hb5)
        clear hb5
        have g10 := (HE.out.sent.up HB5.out).glob 10 (by omega)
        simp only [gix, List.getD_cons_zero, List.getD_cons_succ] at g10
        go_wp2_with fail
        refine (code_all R (.both (.root (R 10)) (ownN k (numT R n))) _ _ ⟨_, _, rfl, ⟨rfl, (HE.out.sent.up HB5.out).row 10 (by omega)⟩, HV5.out⟩ (HE.out.sent.up HB5.out)).mono ?_; rintro e w6 ⟨rfl, hb6⟩
        rw [both_code HE.out.sent]
        have HB6 := Lib.hid (HB5.out.trans (hb6.mono HB5.out.size))
        clear hb6
        have hkn := known_or n
        generalize known n = m at *
        rcases hkn with ⟨m1, m2⟩ | rfl
        · rw [show min m 11 = m from by omega]
          have m3 : (m : Int) ≤ 11 := by omega
          have m4 : ¬ (11 : Int) < (m : Int) := by omega
          go_wp2
          go_ret
          exact ⟨rfl, HB6.out⟩
        · go_wp2
          go_ret
          exact ⟨rfl, HB6.out⟩
end Go.Proofs.YtckipboebllkhaaDoor
