/- slices.Chunk by four over a table. -/
import Derived.RangeFuncNested
import Derived.RangeFuncBound
import Derived.RangeFuncCalls
import Derived.RangeFuncLeaves
import Derived.Shelf.Abstract
import Derived.Shelf.RegionOpen
import Derived.OwnWalkIn
import Derived.TacticsInMore
import Derived.LoopNIn
import Derived.LoopIn
import Derived.RangeFuncFrom
import Derived.Test.YtocfkmdoalhjmaaDoorPlaA
namespace Go.Proofs.YtocfkmdoalhjmaaDoor
open Go.RowKit Go.Shelf
set_option linter.unusedVariables false

attribute [local go_sem] Oper.semAt_some

def uptoC {α : Type} (f : Nat → α) (k : Nat) : List α := (List.range k).map f
theorem uptoC_succ {α : Type} (f : Nat → α) (k : Nat) : uptoC f (k + 1) = uptoC f k ++ [f k] := by simp [uptoC, List.range_succ]
theorem uptoC_length {α : Type} (f : Nat → α) (k : Nat) : (uptoC f k).length = k := by simp [uptoC]
def fK (j : Nat) : Fin 128 := ⟨j % 128, Nat.mod_lt _ (by omega)⟩
theorem fK_val {k : Nat} (h : k < 128) : (fK k).val = k := Nat.mod_eq_of_lt h

set_option maxRecDepth 100000 in
set_option maxHeartbeats 32000000 in
theorem chunk1_in (F : Fence) (n : Nat) (h7 : F.fn 100) (hro : F.round = none) (hn : 1 ≤ n) (l Bs Bn b off cap : Nat) (Kp : World → World → Prop) (hcap : 512 ≤ cap) (hcm : cap ≤ 9223372036854775807) (hKp : ∀ W W', Kp W W' → W'.cell? ⟨Bs, 0, none⟩ = W.cell? ⟨Bs, 0, none⟩ ∧ W'.cell? ⟨Bn, 0, none⟩ = W.cell? ⟨Bn, 0, none⟩) (J Jx : List (Fin 128) → World → Prop) (hJA : ∀ s W W', J s W → W.grownBy W' none → J s W')
    (hY : ∀ pre x W, J pre W → pre.length < 128 → YieldAt F (n - 1) Tryd.prog l #[.slice (some ⟨b, off + 4 * x.val, none⟩) 4 4] W fun e W' =>
      (e = .returned (.bool true) ∧ J (pre ++ [x]) W' ∧ Kp W W') ∨ (e = .returned (.bool false) ∧ Jx (pre ++ [x]) W'))
    (W : World) (hBs : W.cell? ⟨Bs, 0, none⟩ = some (.slice (some ⟨b, off, none⟩) 512 cap)) (hBn : W.cell? ⟨Bn, 0, none⟩ = some (.int .i64 4)) (h0 : J [] W) :
    CallsIn F n Tryd.prog 100 #[.func (.yield l) #[] #[], .pointer (some ⟨Bs, 0, none⟩), .pointer (some ⟨Bn, 0, none⟩)] W fun e W' => (∃ v, e = .returned v) ∧
      ((∃ ys, ys = uptoC fK 128 ∧ J ys W') ∨ (∃ pre, (∃ k, k ≤ 128 ∧ pre = uptoC fK k) ∧ Jx pre W')) := by
  have HJA := Lib.hid hJA
  have HY := Lib.hid hY
  have HKP := Lib.hid hKp
  clear hJA hY hKp
  refine callsIn_of_wp Tryd.func100 rfl h7 ?_ hro
  simp only [Tryd.ntmps100, List.size_toArray, List.length_cons, List.length_nil, Nat.reduceAdd, Nat.reduceSub, Array.replicate_succ, Array.replicate_zero, List.push_toArray, List.append_toArray, List.nil_append, List.cons_append]
  gi_wp2
  gi_loopw [4] (fun i wr => ∃ k : Nat, k ≤ 128 ∧ i = .int .i64 ((4 * k : Nat) : Int) ∧ J (uptoC fK k) wr ∧ wr.cell? ⟨Bs, 0, none⟩ = some (.slice (some ⟨b, off, none⟩) 512 cap) ∧ wr.cell? ⟨Bn, 0, none⟩ = some (.int .i64 4))
    (fun i _ => 512 - (intOf i).toNat)
  case atStart => exact ⟨0, Nat.zero_le _, rfl, h0, hBs, hBn⟩
  case round =>
    obtain ⟨k, hk, rfl, hJs, c1, c2⟩ := hrel
    obtain ⟨I, hI⟩ : ∃ I, 4 * k = I := ⟨_, rfl⟩
    rw [hI]
    by_cases hlt : k < 128
    · have hJd : J (uptoC fK k) wr.drew := HJA.out _ _ _ hJs ⟨rfl, rfl, rfl, Nat.le_refl _, fun _ _ _ => rfl⟩
      obtain ⟨fn, tmps, assign, body, hy, hR⟩ := HY.out _ (fK k) wr.drew hJd (by rw [uptoC_length]; exact hlt)
      have HR := Lib.hid hR
      clear hR hJd hJs
      rw [fK_val hlt, hI] at hy
      have i1 : (I : Int) < ((512 : Nat) : Int) := by omega
      have i2 : (I : Int) < 512 := by omega
      have i3 : I ≤ 512 := by omega
      have i4 : ¬ cap = I := by omega
      have i5 : (0 : Int) ≤ (I : Int) := by omega
      have i6 : I + 4 ≤ 512 := by omega
      have i7 : I + 4 ≤ cap := by omega
      have i8 : ¬ ((512 - I : Nat) : Int) < 4 := by omega
      have i8b : decide (((512 - I : Nat) : Int) < 4) = false := decide_eq_false i8
      have i9 : (I : Int) ≤ (cap : Int) := by omega
      gi_wp2
      gi_region
      all_goals
        have j1 : I + 4 - I = 4 := by omega
        have j2 : (0 : Int) ≤ (I : Int) + 4 := by omega
        have j3 : ((I : Int) + 4).toNat = I + 4 := by omega
        have j4 : (I : Int) ≤ (I : Int) + 4 := by omega
        have j5 : (I : Int) + 4 ≤ (cap : Int) := by omega
        have j6 : IntKind.i64.wrap ((I : Int) + 4) = (I : Int) + 4 := IntWalk.i64_in _ (by omega)
        have HI := Lib.hid hI
        have hmn : (if ((512 - I : Nat) : Int) < 4 then ((512 - I : Nat) : Int) else 4) = 4 := if_neg (by omega)
        have hsl : ∀ w, (Instr.slice 22 (.slice (some ⟨b, off, none⟩) 512 cap) (some (.int .i64 (I : Int))) (some (.int .i64 ((I : Int) + 4))) (some (.int .i64 ((I : Int) + 4)))).run Tryd.prog w = .ok (.slice (some ⟨b, off + I, none⟩) 4 4) w := by
          intro w
          rw [run_slice_lhm w 22 (some ⟨b, off, none⟩) 512 cap Tryd.underlying22 .i64 .i64 .i64 _ _ _ i5 j4 (Int.le_refl _) j5]
          simp [sliced, j3, go_sem]
        rw [hmn]
        have d1 : wr.drew.cell? ⟨Bs, 0, none⟩ = some (.slice (some ⟨b, off, none⟩) 512 cap) := c1
        have d2 : wr.drew.cell? ⟨Bn, 0, none⟩ = some (.int .i64 4) := c2
        clear hI hmn i8b i8 c1 c2
        generalize wr.drew = wd at hy HR d1 d2 ⊢
        have hsw := hsl wd
        clear hsl
        gi_wp2
        refine HR.out.mono ?_
        rintro e W3 (⟨rfl, hJ3, hk3⟩ | ⟨rfl, hJx3⟩)
        · have HJ3 := Lib.hid hJ3
          have c3 := (HKP.out _ _ hk3).2.trans d2
          have c4 := (HKP.out _ _ hk3).1.trans d1
          have HC34 := Lib.hid (And.intro c4 c3)
          clear hJ3 hk3
          gi_wp2
          go_roundw
          case rel => exact ⟨k + 1, by omega, congrArg (Value.int .i64) (by have := HI.out; omega), by rw [uptoC_succ]; exact HJ3.out, HC34.out⟩
          case measure => simp [intOf]; omega
        · have HJX := Lib.hid hJx3
          clear hJx3
          gi_wp2
          refine bodyPost_ret (results_none rfl _ _ _) rfl ?_
          exact ⟨⟨_, rfl⟩, .inr ⟨_, ⟨k + 1, by omega, (uptoC_succ _ _).symm⟩, HJX.out⟩⟩
    · obtain rfl : k = 128 := by omega
      subst hI
      gi_wp2
      go_end0
      exact ⟨⟨_, rfl⟩, .inl ⟨_, rfl, hJs⟩⟩
end Go.Proofs.YtocfkmdoalhjmaaDoor
