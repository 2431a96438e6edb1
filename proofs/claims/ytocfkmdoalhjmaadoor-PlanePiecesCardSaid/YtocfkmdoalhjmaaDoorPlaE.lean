/- The contract of plane.numbers. -/
import Derived.Test.YtocfkmdoalhjmaaDoorPlaB
import Derived.Test.YtocfkmdoalhjmaaDoorBld
namespace Go.Proofs.YtocfkmdoalhjmaaDoor
open Go.RowKit
set_option linter.unusedVariables false
set_option maxRecDepth 100000

/-- a set's digits -/
def digsTo (z : Nat) : Nat → List UInt8
  | 0 => []
  | n + 1 => digsTo z n ++ (if z / 2 ^ n % 2 = 1 then [UInt8.ofNat (48 + n)] else [])
def digsN (z : Nat) : List UInt8 := digsTo z 9
theorem digsTo_len (z : Nat) : ∀ n, (digsTo z n).length ≤ n
  | 0 => Nat.le_refl _
  | n + 1 => by
    have := digsTo_len z n
    unfold digsTo
    split <;> simp <;> omega
theorem digit_nat : ∀ n : Fin 9, (UInt8.ofNat (48 + n.val)).toNat = 48 + n.val := by decide
theorem digs_yes {z n : Nat} (hn : n < 9) (h : z / 2 ^ n % 2 = 1) : Lib.byteCells (digsTo z n) ++ [Value.int .u8 ((48 + n : Nat) : Int)] = Lib.byteCells (digsTo z (n + 1)) := by
  have e : digsTo z (n + 1) = digsTo z n ++ [UInt8.ofNat (48 + n)] := by rw [digsTo, if_pos h]
  have e2 := digit_nat ⟨n, hn⟩
  simp only at e2
  rw [e]
  simp only [Lib.byteCells, List.map_append, List.map_cons, List.map_nil, e2]
theorem digs_no {z n : Nat} (h : ¬ z / 2 ^ n % 2 = 1) : digsTo z (n + 1) = digsTo z n := by rw [digsTo, if_neg h, List.append_nil]
set_option maxHeartbeats 8000000 in
theorem numbers_any (z : Nat) (hz : z < 512) (W : World) : Calls Tryd.prog 74 #[.int .i64 z] W fun e w' => e = .returned (.string ⟨(digsN z).toArray⟩) ∧ Below W.heap.size W w' := by
  obtain ⟨b, hb⟩ : ∃ b, W.heap.size = b := ⟨_, rfl⟩
  obtain ⟨Wb, hWb⟩ : ∃ Wb, W.alloc (.cells #[.pointer none, .slice none 0 0] 172) = Wb := ⟨_, rfl⟩
  have HO0 : Hid (Bld b b (Lib.byteCells (digsTo z 0)) Wb) := by show Bld b b _ Wb; rw [← hWb, ← hb]; exact bld_new rfl (Nat.le_refl _)
  have HB0 : Hid (Below b W Wb) := by rw [← hWb, ← hb]; exact balloc (bnil W) _
  have HBB := Lib.hid hb
  have HWB := Lib.hid hWb
  clear hWb
  go_enter Tryd.func74, Tryd.ntmps74
  go_wp2_with fail
  rw [HWB.out]
  clear hb
  go_loopw [5] (fun ix wr => ∃ n : Nat, n ≤ 9 ∧ ix = .int .i64 n ∧ Bld b b (Lib.byteCells (digsTo z n)) wr ∧ Below b W wr) (fun ix _ => 9 - (intOf ix).toNat)
  case atStart => exact ⟨0, by omega, rfl, HO0.out, HB0.out⟩
  case round =>
    obtain ⟨n, hn, rfl, ho, hbr⟩ := hrel
    have HO := Lib.hid ho
    have HB := Lib.hid hbr
    have hbs : b ≤ wr.heap.size := by have := hbr.size; have := HBB.out; omega
    clear ho hbr
    by_cases hin : n < 9
    · have i1 : (n : Int) < 9 := by omega
      have i0 : (0 : Int) ≤ (n : Int) := by omega
      have i64 : (n : Int) ≤ 64 := by omega
      obtain ⟨v, hv⟩ : ∃ v, z / 2 ^ n = v := ⟨_, rfl⟩
      have hvI : (z : Int) / 2 ^ n = (v : Int) := by rw [← hv, Int.natCast_ediv, Int.natCast_pow]; rfl
      have hv2 : v < 512 := by rw [← hv]; exact Nat.lt_of_le_of_lt (Nat.div_le_self _ _) hz
      have ha := and1_i64 (a := v) (by omega)
      have hlb : (Lib.byteCells (digsTo z n)).length + 1 ≤ 100000000 := by
        have := digsTo_len z n
        rw [Lib.byteCells_length]; omega
      have HLB := Lib.hid hlb
      by_cases hm : v % 2 = 1
      · have hy := digs_yes (z := z) hin (by rw [hv]; exact hm)
        have HY := Lib.hid hy
        rw [hm] at ha
        have hw8 : IntKind.u8.wrap (48 + (n : Int)) = ((48 + n : Nat) : Int) := by
          show ((48 + (n : Int)) % 256) = _
          omega
        have hb1 : bits .and .i64 (v : Int) 1 = 1 := ha
        clear hy hlb hv ha hm
        go_wp2_with fail
        refine (bld_write b b _ ((48 + n : Nat) : Int) _ HO.out HLB.out hbs).mono ?_; rintro e w6 ⟨rfl, ho6, hb6⟩
        rw [HY.out] at ho6
        have HO6 := Lib.hid ho6
        have HB6 := Lib.hid (HB.out.trans hb6)
        clear ho6 hb6
        go_wp2
        go_roundw
        case rel => exact ⟨n + 1, by omega, by go_num, HO6.out, HB6.out⟩
        case measure => simp [intOf]; omega
      · have hm0 : v % 2 = 0 := by omega
        have hno := digs_no (z := z) (n := n) (by rw [hv]; exact hm)
        rw [hm0] at ha
        have hb1 : bits .and .i64 (v : Int) 1 = 0 := ha
        have HO6 : Hid (Bld b b (Lib.byteCells (digsTo z (n + 1))) wr) := by rw [hno]; exact HO.out
        clear hlb hv ha hm hm0 hno
        go_wp2
        go_roundw
        case rel => exact ⟨n + 1, by omega, by go_num, HO6.out, HB.out⟩
        case measure => simp [intOf]; omega
    · obtain rfl : n = 9 := by omega
      have HO2 := Lib.hid (show Bld b b (Lib.byteCells (digsN z)) wr from HO.out)
      clear HO
      go_wp2_with fail
      refine (bld_string b b _ _ HO2.out hbs).mono ?_; rintro e w8 ⟨rfl, hb8⟩
      have hbe : Below W.heap.size W w8 := by rw [HBB.out]; exact HB.out.trans hb8
      have HBE := Lib.hid hbe
      clear hbe hb8
      go_wp2
      go_ret
      exact ⟨rfl, HBE.out⟩
end Go.Proofs.YtocfkmdoalhjmaaDoor
