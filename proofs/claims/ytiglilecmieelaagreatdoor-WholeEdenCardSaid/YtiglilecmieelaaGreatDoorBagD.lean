/- Package bag: key. -/
import Derived.Test.YtiglilecmieelaaGreatDoorBagC
namespace Go.Proofs.YtiglilecmieelaaGreatDoor
open Go.RowKit
set_option linter.unusedVariables false
set_option maxRecDepth 100000

/-- the first t bytes of a set's text -/
def keyP (m t : Nat) : List Int := (List.range t).map fun i => ((byteB m i : Nat) : Int)
theorem keyP_succ (m t : Nat) : keyP m (t + 1) = keyP m t ++ [((byteB m t : Nat) : Int)] := by
  simp [keyP, List.range_succ]
theorem keyP_len (m t : Nat) : (keyP m t).length = t := by simp [keyP]
theorem wrap_u8 (v : Nat) : IntKind.u8.wrap (v : Int) = ((v % 256 : Nat) : Int) := by
  simp [IntKind.wrap, IntKind.bits, IntKind.signed]
theorem word_byte (m j i : Nat) (hi : i < 8) : wordB m j / 256 ^ i % 256 = byteB m (8 * j + i) := by
  have := byte_word m j i hi
  unfold byteB at this ⊢
  exact this
theorem et_u8' : ET Tryz.prog 158 5 (.int .u8 0) 1 1 := ⟨Tryz.underlying158, info_parts (by kernel_rfl), rfl, by decide⟩
set_option maxHeartbeats 8000000 in
theorem key_ok (Wd m gr : Nat) (w : World) (hrow : w.heap[gr]? = some (.cells (wordsV Wd m).toArray 134)) (hW : Wd ≤ 5) :
    Calls Tryz.prog 60 #[.slice (some ⟨gr, 0, none⟩) Wd Wd] w fun e w' => e = .returned (.string (strOfNums (keyP m (8 * Wd)))) ∧ Below w.heap.size w w' := by
  have HROW := Lib.hid hrow
  obtain ⟨E, hE⟩ : ∃ E, 8 * Wd = E := ⟨_, rfl⟩
  have hEI : 8 * (Wd : Int) = (E : Int) := by omega
  have hE40 : E ≤ 40 := by omega
  have q1 : IntKind.i64.wrap (E : Int) = (E : Int) := IntWalk.i64_in _ (by omega)
  have q0 : (0 : Int) ≤ (E : Int) := by omega
  have HE := Lib.hid hE
  obtain ⟨g, hg⟩ : ∃ g, w.heap.size = g := ⟨_, rfl⟩
  have HG := Lib.hid hg
  rw [hE]
  clear hrow hE hg
  go_enter Tryz.func60, Tryz.ntmps60
  go_wp2_with (first
    | (at_make; refine mk_cap rfl _ _ _ rfl w.heap.size et_u8' .i64 .i64 _ E rfl rfl rfl (by omega) (by unfold maxLen; omega) (Nat.le_refl _) ?_; intro w1 hown1 hb1 hsz1))
  have HO1 : Hid (w1.ownsRow g 5 1 (.slice (some ⟨w.heap.size, 0, none⟩) 0 E) 0 ((keyP m 0).map (Value.int .u8))) := by show World.ownsRow _ _ _ _ _ _ _; rw [← HG.out]; exact hown1
  have HB1 : Hid (Below g w w1) := by show Below _ _ _; rw [← HG.out]; exact hb1
  clear hown1 hb1 hsz1 q1 q0 hEI
  go_loopw [3, 12] (fun tv iv wr => ∃ (j nt : Nat) (a' : Option Addr) (c' : Nat), j ≤ Wd ∧ nt = 8 * j ∧ iv = .int .i64 (j : Nat) ∧ tv = .slice a' nt c' ∧ wr.ownsRow g 5 1 (.slice a' nt c') nt ((keyP m nt).map (Value.int .u8)) ∧ Below g w wr) (fun _ iv _ => Wd - (intOf iv).toNat)
  case atStart => exact ⟨0, 0, _, E, Nat.zero_le _, rfl, rfl, rfl, HO1.out, HB1.out⟩
  case round =>
    clear HO1 HB1
    obtain ⟨j, nt, a', c', hj, hnt, rfl, rfl, ho, hb⟩ := hrel
    have hbw : Below w.heap.size w wr := by rw [HG.out]; exact hb
    have HNT := Lib.hid hnt
    have HO := Lib.hid ho
    have HBR := Lib.hid hb
    clear hnt ho hb
    by_cases hlt : j < Wd
    · have i1 : (j : Int) < (Wd : Int) := by omega
      have i0 : (0 : Int) ≤ (j : Int) := by omega
      have hrw := (hbw.block _ (heap_ltR HROW.out)).trans HROW.out
      have cg : wr.cell? ⟨gr, j, none⟩ = some (.int .u64 ((wordB m j : Nat) : Int)) := by simp [World.cell?, hrw, wordsV, hlt]
      have HWL := Lib.hid (wordB_lt m j)
      have HWB : Hid (∀ i, i < 8 → wordB m j / 256 ^ i % 256 = byteB m (8 * j + i)) := fun i hi => word_byte m j i hi
      generalize wordB m j = v at *
      clear hrw hbw
      go_wp2_with fail
      clear cg
      go_loopw [3, 5, 16] (fun tv wv iv wr => ∃ (i nu y : Nat) (a' : Option Addr) (c' : Nat), i ≤ 8 ∧ nu = nt + i ∧ iv = .int .i64 (i : Nat) ∧ wv = .int .u64 (y : Nat) ∧ y = v / 256 ^ i ∧ tv = .slice a' nu c' ∧ wr.ownsRow g 5 1 (.slice a' nu c') nu ((keyP m nu).map (Value.int .u8)) ∧ Below g w wr) (fun _ _ iv _ => 8 - (intOf iv).toNat)
      case atStart => exact ⟨0, nt, v, a', c', Nat.zero_le _, rfl, rfl, rfl, by simp, rfl, HO.out, HBR.out⟩
      case round =>
        clear HO HBR
        obtain ⟨i, nu, y, a', c', hi, hnu, rfl, rfl, hy, rfl, ho, hb⟩ := hrel
        have hbw : Below w.heap.size w wr := by rw [HG.out]; exact hb
        have hgs : g ≤ wr.heap.size := by have := hbw.size; rw [HG.out] at this; exact this
        have hnu2 : nu ≤ 48 := by have := HNT.out; omega
        have HNU := Lib.hid hnu
        have HY := Lib.hid hy
        have HO := Lib.hid ho
        have HBR := Lib.hid hb
        clear hnu hy ho hb hbw
        by_cases hi8 : i < 8
        · have i2 : (i : Int) < 8 := by omega
          have q1 := wrap_u8 y
          have HBY : Hid (y % 256 = byteB m nu) := by
            show _ = _
            rw [HY.out, HWB.out i hi8, HNU.out, HNT.out]
          have q2 : (y : Int) / 256 = ((y / 256 : Nat) : Int) := by omega
          have HY2 : Hid (y / 256 = v / 256 ^ (i + 1)) := by show _ = _; rw [HY.out, Nat.div_div_eq_div_mul, ← Nat.pow_succ]
          generalize y % 256 = by_ at *
          generalize y / 256 = y2 at *
          go_wp2_with (first
            | (at_builtin; refine apl rfl _ _ _ rfl g et_u8' _ nu _ HO.out rfl 1 _ _ rfl rfl rfl rfl (by unfold maxLen; omega) (by omega) hgs ?_; intro a7 c7 w7 h7; have HA7 := Lib.hid h7; clear h7))
          have ho7 : w7.ownsRow g 5 1 (.slice a7 (nu + 1) c7) (nu + 1) ((keyP m (nu + 1)).map (Value.int .u8)) := by
            rw [keyP_succ, List.map_append, ← HBY.out]
            exact HA7.out.own
          have hb7 := HBR.out.trans HA7.out.below
          have hn7 : nu + 1 = nt + (i + 1) := by have := HNU.out; omega
          have hy7 := HY2.out
          refine ⟨⟨i + 1, nu + 1, y2, a7, c7, by omega, hn7, by go_num, rfl, hy7, rfl, ho7, hb7⟩, by simp [intOf]; omega⟩
        · obtain rfl : i = 8 := by omega
          have i2 : ¬ ((8 : Nat) : Int) < 8 := by omega
          have hn7 : nu = 8 * (j + 1) := by have := HNU.out; have := HNT.out; omega
          have HN7 := Lib.hid hn7
          clear hn7
          go_wp2
          go_roundw
          case measure => simp [intOf]; omega
          case rel => exact ⟨j + 1, nu, a', c', by omega, HN7.out, by go_num, rfl, HO.out, HBR.out⟩
    · obtain rfl : j = Wd := by omega
      have i1 : ¬ (j : Int) < (j : Int) := by omega
      have hnt : nt = E := by rw [HNT.out, HE.out]
      subst hnt
      have hrd : Rd wr a' nt 1 ((keyP m nt).map (Value.int .u8)) := (owns_rd HO.out).2
      have hcv := conv_str (P := Tryz.prog) (src := 158) (dst := 9) (e := 5) (c := c') Tryz.underlying158 Tryz.underlying5 Tryz.underlying9 hrd
      have HBF := Lib.hid hbw
      clear hrd hbw
      go_wp2
      go_ret
      exact ⟨rfl, HBF.out⟩
end Go.Proofs.YtiglilecmieelaaGreatDoor
