/- Package bag: Get, key. -/
import Derived.Test.YtiglilecmieelaaGreatDoorBagB
import Derived.Maps.OwnSet
import Derived.Maps.OwnOps
namespace Go.Proofs.YtiglilecmieelaaGreatDoor
open Go.RowKit
set_option linter.unusedVariables false
set_option maxRecDepth 100000

theorem and1_u64 {a : Nat} (ha : a < 18446744073709551616) : bits .and .u64 (a : Int) 1 = ((a % 2 : Nat) : Int) := by
  have e2 : ((BitVec.ofInt 64 (a : Int) &&& BitVec.ofInt 64 1).toNat) = a % 2 := by
    rw [BitVec.toNat_and, ofInt_nat64 ha, show (BitVec.ofInt 64 1).toNat = 1 from by decide, Nat.and_one_is_mod]
  show IntKind.u64.wrap ((BitVec.ofInt 64 (a : Int) &&& BitVec.ofInt 64 1).toNat : Int) = _
  rw [e2]
  exact wrap_u64 (by omega)
/-- the members below x -/
def memX (m x : Nat) : List Nat := (List.range x).filter fun y => m.testBit y
theorem memX_succ (m x : Nat) : memX m (x + 1) = memX m x ++ (if m.testBit x then [x] else []) := by
  unfold memX
  rw [List.range_succ, List.filter_append]
  by_cases h : m.testBit x <;> simp [h]
theorem memX_len (m x : Nat) : (memX m x).length ≤ x := by
  unfold memX
  have := List.length_filter_le (fun y => m.testBit y) (List.range x)
  simpa using this
theorem test_word (m x : Nat) : m.testBit x = decide (wordB m (x / 64) / 2 ^ (x % 64) % 2 = 1) := by
  rw [wordB_bit, Nat.testBit_eq_decide_div_mod_eq]
set_option maxHeartbeats 8000000 in
theorem get_ok (n Wd gB b gr i L cl m : Nat) (mp : Value) (w : World) (hz : w.heap[gB]? = some (.cells #[.int .i64 n, .slice (some ⟨b, 0, none⟩) L cl, mp] 106)) (hc : w.cell? ⟨b, i, none⟩ = some (.slice (some ⟨gr, 0, none⟩) Wd Wd)) (hrow : w.heap[gr]? = some (.cells (wordsV Wd m).toArray 134)) (hi : i < L) (hL : L ≤ 4096) (hWd : (n + 63) / 64 = Wd) (hn : n ≤ 256) :
    Calls Tryz.prog 46 #[.pointer (some ⟨gB, 0, none⟩), .int .i64 i] w fun e w' => ∃ a' n' c', e = .returned (.tuple #[.slice a' n' c', .nilIface]) ∧ RK .i64 w' a' n' ((memB n m).map fun x : Nat => (x : Int)) ∧ n' ≤ n ∧ Below w.heap.size w w' := by
  have h1 : w.cell? ⟨gB, 1, none⟩ = some (.slice (some ⟨b, 0, none⟩) L cl) := by simp [World.cell?, hz]
  have HST := Lib.hid (bset_ok gB i b 0 L cl 0 (.slice (some ⟨gr, 0, none⟩) Wd Wd) w h1 (by rw [Nat.zero_add]; exact hc) hi (by omega))
  have HW : Hid (∀ x, x < n → x / 64 < Wd) := fun x hx => by omega
  have HZ := Lib.hid hz
  have HROW := Lib.hid hrow
  obtain ⟨g, hg⟩ : ∃ g, w.heap.size = g := ⟨_, rfl⟩
  have HG := Lib.hid hg
  have x0 : w.cell? ⟨gB, 0, none⟩ = some (.int .i64 n) := by simp [World.cell?, hz]
  clear hz hc hrow hWd h1 hg
  go_enter Tryz.func46, Tryz.ntmps46
  go_wp2_with fail
  refine HST.out.mono ?_; rintro e w' ⟨rfl, rfl⟩
  go_wp2_with fail
  clear x0
  go_loopw [8, 23] (fun av iv wr => ∃ (x na : Nat) (a' : Option Addr) (c' : Nat), x ≤ n ∧ iv = .int .i64 (x : Nat) ∧ av = .slice a' na c' ∧ wr.ownsRow g 3 1 (.slice a' na c') na (((memX m x).map fun y : Nat => (y : Int)).map (Value.int .i64)) ∧ Below g w' wr) (fun _ iv _ => n - (intOf iv).toNat)
  case atStart => exact ⟨0, 0, none, 0, Nat.zero_le _, rfl, rfl, World.ownsRow_nil _ _ _ _, by rw [← HG.out]; exact bnil w'⟩
  case round =>
    obtain ⟨x, na, a', c', hx, rfl, rfl, ho, hb⟩ := hrel
    have hbw : Below w'.heap.size w' wr := by rw [HG.out]; exact hb
    have hna : na ≤ x := by
      have h1 := ho.1
      have h2 := memX_len m x
      simp only [List.length_map, Nat.mul_one] at h1
      omega
    have hgs : g ≤ wr.heap.size := by have := hbw.size; rw [HG.out] at this; exact this
    have HO := Lib.hid ho
    have HBR := Lib.hid hb
    have HBW := Lib.hid hbw
    clear ho hb
    by_cases hlt : x < n
    · have i1 : (x : Int) < (n : Int) := by omega
      have i0 : (0 : Int) ≤ (x : Int) := by omega
      have hrw := (hbw.block _ (heap_ltR HROW.out)).trans HROW.out
      have hqW := HW.out x hlt
      have cg : wr.cell? ⟨gr, x / 64, none⟩ = some (.int .u64 ((wordB m (x / 64) : Nat) : Int)) := by simp [World.cell?, hrw, wordsV, hqW]
      have hwl := wordB_lt m (x / 64)
      have HTS := Lib.hid (test_word m x)
      have HSC := Lib.hid (memX_succ m x)
      have d3 : (x : Int) / 64 = ((x / 64 : Nat) : Int) := by omega
      have d4 : (x : Int) % 64 = ((x % 64 : Nat) : Int) := by omega
      have d5 : x % 64 < 64 := Nat.mod_lt _ (by decide)
      generalize wordB m (x / 64) = v at *
      generalize x / 64 = qx at *
      generalize x % 64 = bx at *
      have qq0 : (0 : Int) ≤ (qx : Int) := by omega
      have qq1 : (qx : Int) < (Wd : Int) := by omega
      have bb0 : (0 : Int) ≤ (bx : Int) := by omega
      have bb1 : (bx : Int) ≤ 64 := by omega
      have e1 : (v : Int) / 2 ^ bx = ((v / 2 ^ bx : Nat) : Int) := by rw [Int.natCast_ediv, Int.natCast_pow]; rfl
      have e2 : v / 2 ^ bx ≤ v := Nat.div_le_self _ _
      have e3 := and1_u64 (a := v / 2 ^ bx) (by omega)
      generalize v / 2 ^ bx = A at *
      have q64 : IntKind.i64.wrap (qx : Int) = (qx : Int) := IntWalk.i64_in _ (by omega)
      clear hrw hbw
      by_cases hA : A % 2 = 1
      · rw [hA] at e3
        have HS2 : Hid (memX m (x + 1) = memX m x ++ [x]) := by
          show _ = _
          rw [HSC.out, HTS.out, if_pos (by rw [decide_eq_true hA])]
        clear hA
        go_wp2_with (first
          | (at_builtin; refine apl rfl _ _ _ rfl g et_int _ na _ HO.out rfl 1 _ _ rfl rfl rfl rfl (by unfold maxLen; omega) (by omega) hgs ?_; intro a7 c7 w7 h7; have HA7 := Lib.hid h7; clear h7))
        have ho7 : w7.ownsRow g 3 1 (.slice a7 (na + 1) c7) (na + 1) (((memX m (x + 1)).map fun y : Nat => (y : Int)).map (Value.int .i64)) := by
          rw [HS2.out, List.map_append, List.map_append]
          exact HA7.out.own
        have hb7 := HBR.out.trans HA7.out.below
        go_roundw
        case measure => simp [intOf]; omega
        case rel => exact ⟨x + 1, na + 1, a7, c7, by omega, by go_num, rfl, ho7, hb7⟩
      · have hA0 : A % 2 = 0 := by omega
        rw [hA0] at e3
        have HS2 : Hid (memX m (x + 1) = memX m x) := by
          show _ = _
          rw [HSC.out, HTS.out, if_neg (by rw [decide_eq_false hA]; decide), List.append_nil]
        clear hA hA0
        go_wp2
        go_roundw
        case measure => simp [intOf]; omega
        case rel => exact ⟨x + 1, na, a', c', by omega, by go_num, rfl, by rw [HS2.out]; exact HO.out, HBR.out⟩
    · obtain rfl : x = n := by omega
      have i1 : ¬ (x : Int) < (x : Int) := by omega
      have HRK : Hid (RK .i64 wr a' na ((memB x m).map fun y : Nat => (y : Int))) := RK.of_own HO.out
      clear hbw
      go_wp2
      go_ret2
      exact ⟨a', na, ⟨c', rfl⟩, HRK.out, hna, HBW.out⟩
end Go.Proofs.YtiglilecmieelaaGreatDoor
