/- The contract of word.Check. -/
import Derived.Test.YtnmegpplfbkpcaaDoorWordA
import Derived.WalkKit
import Derived.Deep.RegionWith
import Derived.Shelf.Abstract
import Derived.Lib.Hide
namespace Go.Proofs.YtnmegpplfbkpcaaDoor
open Go.RowKit
set_option linter.unusedVariables false
set_option maxRecDepth 100000

theorem check_pred (k : Int) (B : Nat) (w : World) (hB : B < w.heap.size) (hcell : w.cell? ⟨B, 0, none⟩ = some (.int .i64 k)) : PredOf 78 #[.pointer (some ⟨B, 0, none⟩)] (badB k) w := by
  intro W x hb
  have hc : W.cell? ⟨B, 0, none⟩ = some (.int .i64 k) := (hb.cell (p := ⟨B, 0, none⟩) hB).trans hcell
  clear hcell
  show Calls Tryd.prog 78 #[.int .i64 x, .pointer (some ⟨B, 0, none⟩)] W _
  by_cases h0 : x < 0
  · have e : badB k x = true := badB_true.2 (.inl h0)
    rw [e]; clear e
    go_enter Tryd.func78, Tryd.ntmps78
    go_wp2
    go_ret
    exact ⟨rfl, 0, rfl⟩
  · by_cases h1 : k ≤ x
    · have e : badB k x = true := badB_true.2 (.inr h1)
      rw [e]; clear e
      go_enter Tryd.func78, Tryd.ntmps78
      go_wp2
      go_ret
      exact ⟨rfl, 0, rfl⟩
    · have e : badB k x = false := badB_false.2 ⟨by omega, by omega⟩
      rw [e]; clear e
      go_enter Tryd.func78, Tryd.ntmps78
      go_wp2
      go_ret
      exact ⟨rfl, 0, rfl⟩

/-- Check's error: its place, its number -/
def chkErr (k : Int) (l : List Int) : Option (Int × Int) :=
  if alphB k = false then some (0, 3) else if 4096 < l.length then some (0, 4) else if 0 ≤ idxI (badB k) l then some (idxI (badB k) l, 2) else none

theorem chk_none {k : Int} {l : List Int} (h : chkErr k l = none) : 1 ≤ k ∧ k ≤ 4 ∧ l.length ≤ 4096 ∧ ∀ x ∈ l, 0 ≤ x ∧ x < k := by
  unfold chkErr at h
  split at h
  · cases h
  split at h
  · cases h
  split at h
  · cases h
  rename_i h1 h2 h3
  have := alph_true.1 (by simpa using h1)
  exact ⟨this.1, this.2, by omega, fun x hx => badB_false.1 (idxI_neg h3 x hx)⟩
theorem chk_none_of {k : Int} {l : List Int} (h1 : 1 ≤ k) (h2 : k ≤ 4) (h3 : l.length ≤ 4096) (h4 : ∀ x ∈ l, 0 ≤ x ∧ x < k) : chkErr k l = none := by
  unfold chkErr
  rw [if_neg (by simp [alph_true.2 ⟨h1, h2⟩]), if_neg (by omega), findIdx_none (fun x hx => badB_false.2 (h4 x hx)), if_neg (by omega)]

def ChkPost (R : Nat → Addr) (W : World) (x : Option (Int × Int)) (e : Ending) (w' : World) : Prop :=
  Below W.heap.size W w' ∧ match x with
  | none => e = .returned .nilIface
  | some (at_, n) => ∃ g, e = .returned (.iface 100 (.pointer (some ⟨g, 0, none⟩))) ∧ IsErr W.heap.size R w' (.iface 100 (.pointer (some ⟨g, 0, none⟩))) opWord at_ n

set_option maxHeartbeats 1000000 in
theorem check_any (k : Int) (a : Option Addr) (n c : Nat) (l : List Int) (W : World) (R : Nat → Addr) (hG : Glob W R) (hR : RK .i64 W a n l) (hm : n ≤ maxLen) :
    Calls Tryd.prog 44 #[.int .i64 k, .slice a n c] W (ChkPost R W (chkErr k l)) := by
  have hm' : n ≤ 9223372036854775807 := hm
  have HL := Lib.hid hR.len
  have HG := Lib.hid hG; clear hG
  have HR := Lib.hid hR; clear hR
  have hmf : ∀ (fn : Fn) (first cap : Array Value) (w : World), (Instr.makeFunc fn first cap).run Tryd.prog w = .ok (.func fn first cap) w := fun _ _ _ _ => rfl
  cases ha : alphB k with
  | false =>
    have he : chkErr k l = some (0, 3) := by unfold chkErr; rw [if_pos ha]
    rw [he]; clear he
    have HA := Lib.hid ha; clear ha
    go_enter Tryd.func44, Tryd.ntmps44
    go_wp2_with fail
    refine (alph_any k _).mono ?_; rintro e w' ⟨rfl, rfl⟩
    rw [HA.out]
    go_wp2_with fail
    refine (word_wrong _ _ _ R (HG.out.alloc _) rfl).mono ?_; rintro e w' ⟨rfl, rfl⟩
    go_wp2
    go_ret
    exact ⟨balloc (balloc (bnil W) _) _, _, rfl, isErr_at (by simp) (balloc (bnil W) _).size⟩
  | true =>
    have HA := Lib.hid ha; clear ha
    by_cases hbig : 4096 < n
    · have he : chkErr k l = some (0, 4) := by unfold chkErr; rw [if_neg (by simp [HA.out]), if_pos (by have := HL.out; omega)]
      rw [he]; clear he
      go_enter Tryd.func44, Tryd.ntmps44
      go_wp2_with fail
      refine (alph_any k _).mono ?_; rintro e w' ⟨rfl, rfl⟩
      rw [HA.out]
      go_wp2_with fail
      refine (word_wrong _ _ _ R (HG.out.alloc _) rfl).mono ?_; rintro e w' ⟨rfl, rfl⟩
      go_wp2
      go_ret
      exact ⟨balloc (balloc (bnil W) _) _, _, rfl, isErr_at (by simp) (balloc (bnil W) _).size⟩
    · have he : chkErr k l = if 0 ≤ idxI (badB k) l then some (idxI (badB k) l, 2) else none := by
        unfold chkErr; rw [if_neg (by simp [HA.out]), if_neg (by have := HL.out; omega)]
      have HE := Lib.hid he; clear he
      have hPr : PredOf 78 #[.pointer (some ⟨W.heap.size, 0, none⟩)] (badB k) (W.alloc (.cells #[.int .i64 k] 3)) := check_pred k W.heap.size _ (by simp) (by simp)
      have HP := Lib.hid hPr; clear hPr
      have eg : ∀ args w, (callFunc 78 args).run Tryd.prog w = .ok (.enter 78 args) w := enters_of Tryd.func78 (by kernel_rfl) rfl
      have EG := Lib.hid eg; clear eg
      generalize hi : idxI (badB k) l = i at *
      have HI := Lib.hid hi; clear hi
      go_enter Tryd.func44, Tryd.ntmps44
      go_wp2_with fail
      refine (alph_any k _).mono ?_; rintro e w' ⟨rfl, rfl⟩
      rw [HA.out]
      go_wp2_with fail
      refine (indexFunc_any a n c l 78 _ (badB k) _ (HR.out.al _) hm EG.out HP.out).mono ?_; rintro e w' ⟨rfl, m, rfl⟩
      rw [HI.out]
      by_cases h0 : 0 ≤ i
      · go_wp2_with fail
        refine (word_wrong _ _ _ R ((HG.out.alloc _).drewN) rfl).mono ?_; rintro e w' ⟨rfl, rfl⟩
        go_wp2
        go_ret
        show ChkPost R W (chkErr k l) _ _
        rw [HE.out, if_pos (by omega)]
        exact ⟨balloc (bdrewN (balloc (bnil W) _) _) _, _, rfl, isErr_at (by simp) (bdrewN (balloc (bnil W) _) _).size⟩
      · go_wp2
        go_ret
        show ChkPost R W (chkErr k l) _ _
        rw [HE.out, if_neg (by omega)]
        exact ⟨bdrewN (balloc (bnil W) _) _, rfl⟩

theorem check_ok (k : Int) (a : Option Addr) (n c : Nat) (l : List Int) (W : World) (R : Nat → Addr) (hG : Glob W R) (hR : RK .i64 W a n l) (hm : n ≤ maxLen) (he : chkErr k l = none) :
    Calls Tryd.prog 44 #[.int .i64 k, .slice a n c] W fun e w' => e = .returned .nilIface ∧ Below W.heap.size W w' := by
  have := check_any k a n c l W R hG hR hm
  rw [he] at this
  exact this.mono fun e w' h => ⟨h.2, h.1⟩
theorem check_err (k : Int) (a : Option Addr) (n c : Nat) (l : List Int) (W : World) (R : Nat → Addr) (hG : Glob W R) (hR : RK .i64 W a n l) (hm : n ≤ maxLen) (x : Int × Int) (he : chkErr k l = some x) :
    Calls Tryd.prog 44 #[.int .i64 k, .slice a n c] W fun e w' => ∃ g, e = .returned (.iface 100 (.pointer (some ⟨g, 0, none⟩))) ∧ IsErr W.heap.size R w' (.iface 100 (.pointer (some ⟨g, 0, none⟩))) opWord x.1 x.2 ∧ Below W.heap.size W w' := by
  have := check_any k a n c l W R hG hR hm
  rw [he] at this
  exact this.mono fun e w' h => by obtain ⟨h1, g, h2, h3⟩ := h; exact ⟨g, h2, h3, h1⟩
end Go.Proofs.YtnmegpplfbkpcaaDoor
