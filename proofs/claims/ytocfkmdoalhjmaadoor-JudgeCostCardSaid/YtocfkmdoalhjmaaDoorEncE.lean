/- The contract of cert.Encode where it tells an error. -/
import Derived.Test.YtocfkmdoalhjmaaDoorCert
import Derived.WalkKit
import Derived.Lib.Hide
namespace Go.Proofs.YtocfkmdoalhjmaaDoor
open Go.RowKit
set_option linter.unusedVariables false
set_option maxRecDepth 100000

/-- Encode's error: its place, its number -/
def encErr (w h : Int) (l : List (Int × Int × Int)) : Option (Int × Int) :=
  if w < 1 ∨ 8 < w then some (0, 3) else if h < 1 ∨ 4 < h then some (1, 3) else if 43689 < l.length then some (0, 4) else
  (l.findIdx? fun x => !fitsE w h x).map fun (i : Nat) => (2 + (i : Int), (3 : Int))

theorem encErr_none {w h : Int} {l : List (Int × Int × Int)} (hn : encErr w h l = none) : 1 ≤ w ∧ w ≤ 8 ∧ 1 ≤ h ∧ h ≤ 4 ∧ l.length ≤ 43689 ∧ ∀ x ∈ l, fitsE w h x = true := by
  unfold encErr at hn
  split at hn
  · cases hn
  split at hn
  · cases hn
  split at hn
  · cases hn
  · refine ⟨by omega, by omega, by omega, by omega, by omega, ?_⟩
    intro x hx
    simp only [Option.map_eq_none_iff, List.findIdx?_eq_none_iff] at hn
    simpa using hn x hx
theorem encErr_some {w h at_ n : Int} {l : List (Int × Int × Int)} (hn : encErr w h l = some (at_, n)) :
    ((w < 1 ∨ 8 < w) ∧ at_ = 0 ∧ n = 3) ∨ (1 ≤ w ∧ w ≤ 8 ∧ (h < 1 ∨ 4 < h) ∧ at_ = 1 ∧ n = 3) ∨ (1 ≤ w ∧ w ≤ 8 ∧ 1 ≤ h ∧ h ≤ 4 ∧ 43689 < l.length ∧ at_ = 0 ∧ n = 4) ∨
    (1 ≤ w ∧ w ≤ 8 ∧ 1 ≤ h ∧ h ≤ 4 ∧ l.length ≤ 43689 ∧ ∃ j, ∃ hj : j < l.length, (∀ i (hi : i < j), fitsE w h l[i] = true) ∧ fitsE w h l[j] = false ∧ at_ = 2 + (j : Int) ∧ n = 3) := by
  unfold encErr at hn
  split at hn
  · cases hn; exact .inl ⟨by assumption, rfl, rfl⟩
  split at hn
  · cases hn; exact .inr (.inl ⟨by omega, by omega, by assumption, rfl, rfl⟩)
  split at hn
  · cases hn; exact .inr (.inr (.inl ⟨by omega, by omega, by omega, by omega, by assumption, rfl, rfl⟩))
  · refine .inr (.inr (.inr ⟨by omega, by omega, by omega, by omega, by omega, ?_⟩))
    simp only [Option.map_eq_some_iff, Prod.mk.injEq] at hn
    obtain ⟨j, hj, h1, h2⟩ := hn
    rw [List.findIdx?_eq_some_iff_getElem] at hj
    obtain ⟨hlt, hbad, hall⟩ := hj
    refine ⟨j, hlt, fun i hi => ?_, by simpa using hbad, h1.symm, h2.symm⟩
    simpa using hall i hi

def EncErrPost (R : Nat → Addr) (W : World) (at_ n : Int) (e : Ending) (w' : World) : Prop :=
  ∃ v, e = .returned (.tuple #[.slice none 0 0, v]) ∧ IsErr W.heap.size R w' v opCert at_ n ∧ Below W.heap.size W w'

theorem encErr_mk {R : Nat → Addr} {W w' : World} {at_ n : Int} {v : Value} (h1 : IsErr W.heap.size R w' v opCert at_ n) (h2 : Below W.heap.size W w') : EncErrPost R W at_ n (.returned (.tuple #[.slice none 0 0, v])) w' := ⟨v, rfl, h1, h2⟩

set_option maxHeartbeats 2000000 in
theorem encode_err (w h : Int) (a : Option Addr) (c n : Nat) (l : List (Int × Int × Int)) (W : World) (R : Nat → Addr) (hG : Glob W R) (hn : n = l.length) (hR : Rd W a l.length 3 (entsC l)) (hlen : l.length ≤ maxLen) (at_ k : Int) (he : encErr w h l = some (at_, k)) :
    Calls Tryd.prog 47 #[.int .i64 w, .int .i64 h, .slice a n c] W (EncErrPost R W at_ k) := by
  unfold maxLen at hlen
  subst hn
  have HG := Lib.hid hG; clear hG
  have HR := Lib.hid hR; clear hR
  rcases encErr_some he with ⟨hw, rfl, rfl⟩ | ⟨hw1, hw2, hh, rfl, rfl⟩ | ⟨hw1, hw2, h1, h2, hl, rfl, rfl⟩ | ⟨hw1, hw2, h1, h2, hl, j, hj, hall, hbad, rfl, rfl⟩
  · clear he
    rcases hw with hw | hw
    all_goals
      go_enter Tryd.func47, Tryd.ntmps47
      go_wp2_with (first
        | (go_at_call 89; refine (cert_wrong _ _ _ R HG.out rfl).mono ?_; rintro e w' ⟨rfl, rfl⟩))
      go_ret2
      exact encErr_mk (isErr_new (Nat.le_refl _)) (balloc (bnil _) _)
  · clear he
    rcases hh with hw | hw
    all_goals
      go_enter Tryd.func47, Tryd.ntmps47
      go_wp2_with (first
        | (go_at_call 89; refine (cert_wrong _ _ _ R HG.out rfl).mono ?_; rintro e w' ⟨rfl, rfl⟩))
      go_ret2
      exact encErr_mk (isErr_new (Nat.le_refl _)) (balloc (bnil _) _)
  · clear he
    go_enter Tryd.func47, Tryd.ntmps47
    go_wp2_with (first
        | (go_at_call 89; refine (cert_wrong _ _ _ R HG.out rfl).mono ?_; rintro e w' ⟨rfl, rfl⟩))
    go_ret2
    exact encErr_mk (isErr_new (Nat.le_refl _)) (balloc (bnil _) _)
  · clear he
    have HA := Lib.hid hall; clear hall
    have HB := Lib.hid hbad; clear hbad
    go_enter Tryd.func47, Tryd.ntmps47
    go_wp2_with (first
      | (at_make; refine mk_cap rfl _ _ _ rfl W.heap.size et_u8 .i64 .i64 _ (4 + 3 * l.length) rfl rfl (by omega) (by omega) (by unfold maxLen; omega) (Nat.le_refl _) ?_; intro w1 hown1 hb1 hsz1)
      | (at_builtin; refine app_lit rfl _ _ _ rfl W.heap.size et_u8 _ 0 [] hown1 rfl 4 _ _ rfl rfl rfl rfl (by unfold maxLen; omega) (by omega) (by omega) ?_; intro a2 c2 w2 hown2 hgr2 hb2 hsz2))
    go_loopw [8, 46] (fun v i wr => ∃ (k : Nat) (a' : Option Addr) (c' : Nat) (xs : List Value), k ≤ j ∧ i = .int .i64 k ∧ v = .slice a' (4 + 3 * k) c' ∧ wr.ownsRow W.heap.size 5 1 (.slice a' (4 + 3 * k) c') (4 + 3 * k) xs ∧ Below W.heap.size W wr) (fun _ i _ => l.length - (intOf i).toNat)
    case atStart => exact ⟨0, a2, c2, _, by omega, rfl, rfl, by simpa using hown2, hb1.trans hb2⟩
    case round =>
      obtain ⟨k, a', c', xs, hk, rfl, rfl, hown, hb⟩ := hrel
      have hlt : k < l.length := by omega
      obtain ⟨b, o, rfl, hbo, hcell⟩ := HR.out.2.resolve_left (by omega)
      obtain ⟨c0, c1, c2⟩ := ent_cells hb hbo hcell k hlt
      clear hcell
      have hz := hb.size
      by_cases hkj : k = j
      · subst hkj
        have hfit := HB.out
        simp only [fitsE] at hfit
        go_wp2_with (first
          | (go_at_call 91; refine (fits_any _ _ _ _ _ _ h1 h2 hw1 hw2).mono ?_; rintro e w' ⟨rfl, rfl⟩)
          | (go_at_call 89; refine (cert_wrong _ _ _ R (((HG.out.up hb).alloc _).alloc _) rfl).mono ?_; rintro e w' ⟨rfl, rfl⟩))
        go_ret2
        exact encErr_mk (isErr_at (by simp) (balloc (balloc hb _) _).size) (balloc (balloc (balloc hb _) _) _)
      · have hlt2 : k < j := by omega
        have hfit := HA.out k hlt2
        simp only [fitsE] at hfit
        go_wp2_with (first
          | (go_at_call 91; refine (fits_any _ _ _ _ _ _ h1 h2 hw1 hw2).mono ?_; rintro e w' ⟨rfl, rfl⟩)
          | (at_builtin; refine app_lit rfl _ _ _ rfl W.heap.size et_u8 _ (4 + 3 * k) _ ((hown.alloc _).alloc _) rfl 3 _ _ rfl (by simp) rfl rfl (by unfold maxLen; omega) (by omega) (by simp; omega) ?_; intro a3 c3 w3 hown3 hgr3 hb3 hsz3))
        go_roundw
        case rel => exact ⟨k + 1, a3, c3, _, by omega, by go_num, rfl, hown3, (balloc (balloc hb _) _).trans hb3⟩
        case measure => simp [intOf]; omega
end Go.Proofs.YtocfkmdoalhjmaaDoor
