/- The contract of word.Least. -/
import Derived.Test.YtjgblanpaanglaaDoorLeast
import Derived.Test.YtjgblanpaanglaaDoorInts
import Derived.WalkKit
import Derived.Deep.QuietTactic
import Derived.BigQuiet
import Derived.WalkLawsBesides
import Derived.Lib.Hide
namespace Go.Proofs.YtjgblanpaanglaaDoor
open Go.RowKit
set_option linter.unusedVariables false
set_option maxRecDepth 100000

theorem least_zero (a : Option Addr) (c : Nat) (W : World) :
    Calls Tryd.prog 37 #[.slice a 0 c] W fun e w' => e = .returned (.int .i64 0) ∧ W = w' := by
  go_enter Tryd.func37, Tryd.ntmps37
  go_wp2_with fail
  refine wp_loop_rounds 1 ?_
  rw [rounds_succ]
  go_wp2
  go_ret
  exact ⟨rfl, rfl⟩

set_option maxHeartbeats 4000000 in
theorem least_any (a : Option Addr) (n c : Nat) (l : List Int) (W : World) (hR : RK .i64 W a n l) (hn : 0 < n) (hm : n * 8 ≤ 140737488351232) :
    Calls Tryd.prog 37 #[.slice a n c] W fun e w' => ∃ m : Nat, IsLeast l m ∧ e = .returned (.int .i64 m) ∧ Below W.heap.size W w' := by
  have HL := Lib.hid hR.len
  obtain ⟨b, o, rfl, hbo, hcell⟩ := hR.addr hn
  have HC := Lib.hid hcell
  clear hcell hR
  have hnz : ((n : Int) == 0) = false := by rw [beq_eq_false_iff_ne]; omega
  go_enter Tryd.func37, Tryd.ntmps37
  go_wp2_with fail
  go_loopw [4, 5, 6] (fun ix jx sx wr => ∃ (i j s q : Nat), ix = .int .i64 i ∧ jx = .int .i64 j ∧ sx = .int .i64 s ∧ i ≤ 2 * n ∧ j ≤ 2 * n + 1 ∧ s ≤ n ∧ LInv l i j s ∧ wr = W.drewN q) (fun ix jx sx _ => 6 * n - (intOf ix).toNat - (intOf jx).toNat - (intOf sx).toNat)
  case atStart => exact ⟨0, 1, 0, 0, rfl, rfl, rfl, by omega, by omega, by omega, linv_start l, rfl⟩
  case round =>
    obtain ⟨i, j, s, q, rfl, rfl, rfl, hi2, hj2, hs2, hinv, rfl⟩ := hrel
    by_cases hgo : i < n ∧ j < n ∧ s < n
    · obtain ⟨g1, g2, g3⟩ := hgo
      obtain ⟨r1, hr1⟩ : ∃ r1, (i + s) % n = r1 := ⟨_, rfl⟩
      obtain ⟨r2, hr2⟩ : ∃ r2, (j + s) % n = r2 := ⟨_, rfl⟩
      have l1 : r1 < n := by rw [← hr1]; exact Nat.mod_lt _ hn
      have l2 : r2 < n := by rw [← hr2]; exact Nat.mod_lt _ hn
      have m1 : ((i : Int) + (s : Int)) % (n : Int) = (r1 : Int) := by rw [← hr1]; simp
      have m2 : ((j : Int) + (s : Int)) % (n : Int) = (r2 : Int) := by rw [← hr2]; simp
      have c1 := HC.out r1 l1
      have c2 := HC.out r2 l2
      have HSAME : Hid (l.getD r1 0 = l.getD r2 0 → LInv l i j (s + 1)) := fun e => linv_same hinv (by rw [← HL.out, hr1, hr2]; exact e)
      have HI : Hid (l.getD r2 0 < l.getD r1 0 → LInv l (i + (s + 1)) (if i + (s + 1) = j then j + 1 else j) 0) := fun e => linv_step hinv (by rw [← HL.out]; exact g3) (by rw [← HL.out, hr1, hr2]; exact e)
      have HJ : Hid (l.getD r1 0 < l.getD r2 0 → LInv l (j + (s + 1)) (if j + (s + 1) = i then i + 1 else i) 0) := fun e => linv_step (linv_symm hinv) (by rw [← HL.out]; exact g3) (by rw [← HL.out, hr1, hr2]; exact e)
      have s1 : IntKind.i64.wrap ((i : Int) + (s : Int)) = (i : Int) + (s : Int) := IntWalk.i64_in _ (by omega)
      have s2 : IntKind.i64.wrap ((j : Int) + (s : Int)) = (j : Int) + (s : Int) := IntWalk.i64_in _ (by omega)
      have p1 : (0 : Int) ≤ (i : Int) + (s : Int) := by omega
      have p2 : (0 : Int) ≤ (j : Int) + (s : Int) := by omega
      have i0 : (0 : Int) ≤ (r1 : Int) := by omega
      have i1 : (r1 : Int) < (n : Int) := by omega
      have i2 : (0 : Int) ≤ (r2 : Int) := by omega
      have i3 : (r2 : Int) < (n : Int) := by omega
      have i4 : (0 : Int) < (n : Int) := by omega
      clear hr1 hr2 hinv
      generalize l.getD r1 0 = x at *
      generalize l.getD r2 0 = y at *
      rcases Int.lt_trichotomy x y with hxy | hxy | hxy
      · have hb : (x == y) = false := by rw [beq_eq_false_iff_ne]; omega
        have HN := Lib.hid (HJ.out hxy)
        clear HI HJ HSAME
        by_cases he : j + (s + 1) = i
        · have he2 : ((i : Int) == (j : Int) + ((s : Int) + 1)) = true := by rw [beq_iff_eq]; omega
          have HN2 := HN.out
          rw [if_pos he, he] at HN2
          have HN3 : Hid (LInv l i (j + (s + 1) + 1) 0) := by rw [he]; exact HN2
          clear HN2 HN
          have HE := Lib.hid he; clear he
          go_wp2_with fail
          go_quiet (fail)
          clear s1 s2 m1 m2
          go_wp2
          go_roundw
          case rel => exact ⟨i, j + (s + 1) + 1, 0, q + nq, rfl, by go_num, rfl, by omega, by omega, by omega, HN3.out, by simp⟩
          case measure => simp [intOf]; omega
        · have he2 : ((i : Int) == (j : Int) + ((s : Int) + 1)) = false := by rw [beq_eq_false_iff_ne]; omega
          have HN2 := HN.out
          rw [if_neg he] at HN2
          have HN3 := Lib.hid (linv_symm HN2)
          clear HN2 HN he
          go_wp2_with fail
          go_quiet (fail)
          clear s1 s2 m1 m2
          go_wp2
          go_roundw
          case rel => exact ⟨i, j + (s + 1), 0, q + nq, rfl, by go_num, rfl, by omega, by omega, by omega, HN3.out, by simp⟩
          case measure => simp [intOf]; omega
      · have hb : (x == y) = true := by rw [beq_iff_eq]; exact hxy
        have HN := Lib.hid (HSAME.out hxy)
        clear HI HJ HSAME hxy
        go_wp2_with fail
        go_quiet (fail)
        clear s1 s2 m1 m2
        go_wp2
        go_roundw
        case rel => exact ⟨i, j, s + 1, q + nq, rfl, rfl, by go_num, by omega, by omega, by omega, HN.out, by simp⟩
        case measure => simp [intOf]; omega
      · have hb : (x == y) = false := by rw [beq_eq_false_iff_ne]; omega
        have HN := Lib.hid (HI.out hxy)
        clear HI HJ HSAME
        by_cases he : i + (s + 1) = j
        · have he2 : ((i : Int) + ((s : Int) + 1) == (j : Int)) = true := by rw [beq_iff_eq]; omega
          have HN2 := HN.out
          rw [if_pos he] at HN2
          have HN3 := Lib.hid HN2
          clear HN2 HN
          have HE := Lib.hid he; clear he
          go_wp2_with fail
          go_quiet (fail)
          clear s1 s2 m1 m2
          go_wp2
          go_roundw
          case rel => exact ⟨i + (s + 1), j + 1, 0, q + nq, by go_num, by go_num, rfl, by omega, by omega, by omega, HN3.out, by simp⟩
          case measure => simp [intOf]; omega
        · have he2 : ((i : Int) + ((s : Int) + 1) == (j : Int)) = false := by rw [beq_eq_false_iff_ne]; omega
          have HN2 := HN.out
          rw [if_neg he] at HN2
          have HN3 := Lib.hid HN2
          clear HN2 HN he
          go_wp2_with fail
          go_quiet (fail)
          clear s1 s2 m1 m2
          go_wp2
          go_roundw
          case rel => exact ⟨i + (s + 1), j, 0, q + nq, by go_num, rfl, rfl, by omega, by omega, by omega, HN3.out, by simp⟩
          case measure => simp [intOf]; omega
    · have hx : n ≤ i ∨ (i < n ∧ n ≤ j) ∨ (i < n ∧ j < n ∧ n ≤ s) := by omega
      have HF := Lib.hid (linv_end hinv (by have := HL.out; omega) (by have := HL.out; omega))
      have hne := hinv.ne
      clear hinv hgo
      by_cases hij : i < j
      · have HF2 := HF.out
        rw [if_pos hij] at HF2
        have HF3 := Lib.hid HF2
        clear HF2 HF
        rcases hx with h1 | ⟨h1, h2⟩ | ⟨h1, h2, h3⟩
        all_goals
          go_wp2 <;> go_ret <;> exact ⟨i, HF3.out, by first | rfl | (refine congrArg Ending.returned ?_; simp; omega), bdrewN (bnil W) q⟩
      · have HF2 := HF.out
        rw [if_neg hij] at HF2
        have HF3 := Lib.hid HF2
        clear HF2 HF
        rcases hx with h1 | ⟨h1, h2⟩ | ⟨h1, h2, h3⟩
        all_goals
          go_wp2 <;> go_ret <;> exact ⟨j, HF3.out, by first | rfl | (refine congrArg Ending.returned ?_; simp; omega), bdrewN (bnil W) q⟩
end Go.Proofs.YtjgblanpaanglaaDoor
