/- The contract of patch.Text. -/
import Derived.Test.YtnlpobkmjhajcaaDoorPatE
import Derived.Test.YtnlpobkmjhajcaaDoorBld
namespace Go.Proofs.YtnlpobkmjhajcaaDoor
open Go.RowKit
set_option linter.unusedVariables false
set_option maxRecDepth 100000

/-- a cell's letter -/
def txB (l : List Int) (i : Nat) : UInt8 := if l.getD i 0 = 0 then 46 else 35
/-- the text of the first cells -/
def textS (w : Nat) (l : List Int) : Nat → List UInt8
  | 0 => []
  | i + 1 => textS w l i ++ (if 0 < i ∧ i % w = 0 then [47] else []) ++ [txB l i]
def textP (w h : Nat) (l : List Int) : List UInt8 := textS w l (w * h)
theorem textS_len (w : Nat) (l : List Int) : ∀ i, (textS w l i).length ≤ 2 * i
  | 0 => by simp [textS]
  | i + 1 => by
    have := textS_len w l i
    unfold textS
    split <;> simp <;> omega
theorem text_sep {w i : Nat} {l : List Int} (h0 : 0 < i) (h1 : i % w = 0) (bs : List Value) (h : bs = (Lib.byteCells (textS w l i) ++ [Value.int .u8 47]) ++ [Value.int .u8 (txB l i).toNat]) : bs = Lib.byteCells (textS w l (i + 1)) := by
  subst h
  simp [textS, h0, h1, Lib.byteCells]
theorem text_nosep {w i : Nat} {l : List Int} (h1 : ¬ (0 < i ∧ i % w = 0)) (bs : List Value) (h : bs = Lib.byteCells (textS w l i) ++ [Value.int .u8 (txB l i).toNat]) : bs = Lib.byteCells (textS w l (i + 1)) := by
  subst h
  simp [textS, h1, Lib.byteCells]

set_option maxHeartbeats 8000000 in
theorem text_ok (w h : Nat) (a : Option Addr) (n c : Nat) (l : List Int) (W : World) (R : Nat → Addr) (hS : Sent W R) (hR : RK .i64 W a n l) (hm : n ≤ maxLen) (hx : I64 l) (hp : IsPatch w h l) :
    Calls Tryd.prog 22 #[patV w h a n c] W fun e w' => e = .returned (.tuple #[.string ⟨(textP w h l).toArray⟩, .nilIface]) ∧ Below W.heap.size W w' := by
  have hw1 := hp.w1
  have hh1 := hp.h1
  have hw2 := hp.w2
  have hh2 := hp.h2
  have hlen := hp.len
  have hnl := hR.len
  have hn4 : n ≤ 5000 := by have := Nat.mul_le_mul hw2 hh2; omega
  have hn1 : 0 < n := by have := Nat.mul_le_mul hw1 hh1; omega
  have htx : textP w h l = textS w l n := by unfold textP; rw [← hlen, ← hnl]
  have HTX := Lib.hid htx; clear htx
  have HSY : Hid (∀ i, i < n → l.getD i 0 = 0 ∨ l.getD i 0 = 1) := fun i hi => by
    have hi' : i < l.length := by omega
    rw [show l.getD i 0 = l[i] by simp [hi']]
    exact hp.sym _ (List.getElem_mem hi')
  obtain ⟨Wb, hWb⟩ : ∃ Wb, W.alloc (.cells #[.int .i64 w, .int .i64 h, .slice a n c] 24) = Wb := ⟨_, rfl⟩
  have HX : Hid (Wb.cell? ⟨W.heap.size, 0, none⟩ = some (.int .i64 w) ∧ Wb.cell? ⟨W.heap.size, 1, none⟩ = some (.int .i64 h) ∧ Wb.cell? ⟨W.heap.size, 2, none⟩ = some (.slice a n c)) := by rw [← hWb]; exact ⟨cnw rfl rfl, cnw rfl rfl, cnw rfl rfl⟩
  have HBX : Hid (Below W.heap.size W Wb) := by rw [← hWb]; exact balloc (bnil W) _
  have HSN := Lib.hid (hS.up HBX.out)
  have HR0 := Lib.hid hR
  have HR := Lib.hid (hR.up HBX.out)
  have HI6 := Lib.hid hx
  have HPP := Lib.hid hp
  clear hS hR hx hp hlen hnl
  have x0 := HX.out.1
  have x1 := HX.out.2.1
  have x2 := HX.out.2.2
  have HWB := Lib.hid hWb; clear hWb
  go_enter Tryd.func22, Tryd.ntmps22
  go_wp2_with fail
  rw [HWB.out]
  refine (pcheck_ok w h a n c l _ R HSN.out HR.out hm HI6.out HPP.out).mono ?_; rintro e w1 ⟨rfl, hb1⟩
  have HC1 := Lib.hid hb1
  have HY := Lib.hid (And.intro (cpa hb1 x0) (And.intro (cpa hb1 x1) (cpa hb1 x2)))
  clear hb1 x0 x1 x2
  obtain ⟨w2, hw2e⟩ : ∃ w2, w1.alloc (.cells #[.pointer none, .slice none 0 0] 86) = w2 := ⟨_, rfl⟩
  have HB2 : Hid (Bld w1.heap.size w1.heap.size [] w2) := by rw [← hw2e]; exact bld_new rfl (Nat.le_refl _)
  have HL2 : Hid (Below w1.heap.size w1 w2) := by rw [← hw2e]; exact balloc (bnil w1) _
  have HW2 := Lib.hid hw2e; clear hw2e
  have y2 : (w1.alloc (.cells #[.pointer none, .slice none 0 0] 86)).cell? ⟨W.heap.size, 2, none⟩ = some (.slice a n c) := al000 HY.out.2.2
  go_wp2
  rw [HW2.out]
  obtain ⟨b, hb⟩ : ∃ b, w1.heap.size = b := ⟨_, rfl⟩
  rw [hb] at HB2 HL2 ⊢
  have HBB := Lib.hid hb
  clear y2 hb
  go_loopw [6, 7, 16] (fun _ _ ix wr => ∃ i : Nat, i ≤ n ∧ ix = .int .i64 i ∧ Bld b b (Lib.byteCells (textS w l i)) wr ∧ Below b w1 wr) (fun _ _ ix _ => n - (intOf ix).toNat)
  case atStart => exact ⟨0, by omega, rfl, HB2.out, HL2.out⟩
  case round =>
    clear HB2 HL2
    obtain ⟨i, hi, rfl, ho, hb⟩ := hrel
    have HO := Lib.hid ho
    have HB := Lib.hid hb
    clear ho hb
    by_cases hin : i < n
    · have hbw := HBX.out.trans ((HC1.out.trans ((HBB.out.symm ▸ HB.out : Below w1.heap.size w1 wr).mono HC1.out.size)).mono HBX.out.size)
      obtain ⟨ab, ao, rfl, hab, hcell⟩ := (HR0.out.up hbw).addr hn1
      have z0 := hcell i hin
      have hup := (HBB.out.symm ▸ HB.out : Below w1.heap.size w1 wr)
      have x0 := cpa hup HY.out.1
      have hlb : (Lib.byteCells (textS w l i)).length + 2 ≤ 100000000 := by
        have := textS_len w l i
        rw [Lib.byteCells_length]; omega
      have HLB := Lib.hid hlb
      have hbs : b ≤ wr.heap.size := by have := HB.out.size; have := HBB.out; omega
      have HBS := Lib.hid hbs
      have i0 : (0 : Int) ≤ (i : Int) := by omega
      have i1 : (i : Int) < (n : Int) := by omega
      have iw : IntKind.i64.wrap ((i : Int) + 1) = (i : Int) + 1 := IntWalk.i64_in _ (by omega)
      obtain ⟨X, hX⟩ : ∃ X, i % w = X := ⟨_, rfl⟩
      have HXX := Lib.hid hX
      have tm : (i : Int).tmod (w : Int) = (X : Int) := by rw [Int.tmod_eq_emod_of_nonneg i0, ← Int.natCast_emod, hX]
      have te : (i : Int) % (w : Int) = (X : Int) := by rw [← Int.natCast_emod, hX]
      have hXw : X ≤ 64 := by rw [← hX]; exact Nat.le_trans (Nat.le_of_lt (Nat.mod_lt _ (by omega))) hw2
      have xw : IntKind.i64.wrap (X : Int) = (X : Int) := IntWalk.i64_in _ (by omega)
      have wz : ((w : Int) == 0) = false := by rw [beq_eq_false_iff_ne]; omega
      have wn : ¬ w = 0 := by omega
      clear hcell hbw hup hlb hbs hX
      obtain ⟨C, hC⟩ : ∃ C, l.getD i 0 = C := ⟨_, rfl⟩
      have hC2 := HSY.out i hin
      rw [hC] at hC2 z0
      have HCC := Lib.hid hC
      clear hC
      rcases hC2 with rfl | rfl
      · rcases Nat.eq_zero_or_pos i with hi0 | h0
        · subst hi0
          have z1 : wr.cell? ⟨ab, ao, none⟩ = some (.int .i64 0) := z0
          have HTB : Hid (txB l 0 = 46) := by show _ = _; unfold txB; rw [HCC.out]; rfl
          go_wp2_with fail
          refine (bld_write b b _ 46 _ HO.out (by have := HLB.out; omega) HBS.out).mono ?_; rintro e w6 ⟨rfl, ho6, hb6⟩
          have HO6 := Lib.hid (text_nosep (w := w) (l := l) (i := 0) (by have := HXX.out; omega) _ (by first | (rw [HTB.out]; done) | (rw [HTB.out]; rfl)) ▸ ho6 : Bld b b (Lib.byteCells (textS w l (0 + 1))) w6)
          have HB6 := Lib.hid (HB.out.trans (hb6.mono (Nat.le_refl _)))
          clear ho6 hb6
          go_wp2
          go_roundw
          case rel => exact ⟨0 + 1, by omega, by go_num, HO6.out, HB6.out⟩
          case measure => simp [intOf]; omega
        · have h0I : (0 : Int) < (i : Int) := by omega
          rcases Nat.eq_zero_or_pos X with hX0 | hX0
          · subst hX0
            have HTB : Hid (txB l i = 46) := by show _ = _; unfold txB; rw [HCC.out]; rfl
            go_wp2_with fail
            refine (bld_write b b _ 47 _ HO.out (by have := HLB.out; omega) HBS.out).mono ?_; rintro e w5 ⟨rfl, ho5, hb5⟩
            have HO5 := Lib.hid ho5
            have HB5 := Lib.hid hb5
            clear ho5 hb5
            have HBS5 := Lib.hid (Nat.le_trans HBS.out HB5.out.size)
            go_wp2_with fail
            refine (bld_write b b _ 46 _ HO5.out (by have := HLB.out; simp; omega) HBS5.out).mono ?_; rintro e w6 ⟨rfl, ho6, hb6⟩
            have HO6 := Lib.hid (text_sep (l := l) h0 (by rw [HXX.out]) _ (by first | (rw [HTB.out]; done) | (rw [HTB.out]; rfl)) ▸ ho6 : Bld b b (Lib.byteCells (textS w l (i + 1))) w6)
            have HB6 := Lib.hid ((HB.out.trans (HB5.out.mono (Nat.le_refl _))).trans (hb6.mono (Nat.le_refl _)))
            clear ho6 hb6
            go_wp2
            go_roundw
            case rel => exact ⟨i + 1, by omega, by go_num, HO6.out, HB6.out⟩
            case measure => simp [intOf]; omega
          · have xz : ((X : Int) == 0) = false := by rw [beq_eq_false_iff_ne]; omega
            have xn : ¬ X = 0 := by omega
            have HTB : Hid (txB l i = 46) := by show _ = _; unfold txB; rw [HCC.out]; rfl
            go_wp2_with fail
            refine (bld_write b b _ 46 _ HO.out (by have := HLB.out; omega) HBS.out).mono ?_; rintro e w6 ⟨rfl, ho6, hb6⟩
            have HO6 := Lib.hid (text_nosep (w := w) (l := l) (i := i) (by have := HXX.out; omega) _ (by first | (rw [HTB.out]; done) | (rw [HTB.out]; rfl)) ▸ ho6 : Bld b b (Lib.byteCells (textS w l (i + 1))) w6)
            have HB6 := Lib.hid (HB.out.trans (hb6.mono (Nat.le_refl _)))
            clear ho6 hb6
            go_wp2
            go_roundw
            case rel => exact ⟨i + 1, by omega, by go_num, HO6.out, HB6.out⟩
            case measure => simp [intOf]; omega
      · rcases Nat.eq_zero_or_pos i with hi0 | h0
        · subst hi0
          have z1 : wr.cell? ⟨ab, ao, none⟩ = some (.int .i64 1) := z0
          have HTB : Hid (txB l 0 = 35) := by show _ = _; unfold txB; rw [HCC.out]; rfl
          go_wp2_with fail
          refine (bld_write b b _ 35 _ HO.out (by have := HLB.out; omega) HBS.out).mono ?_; rintro e w6 ⟨rfl, ho6, hb6⟩
          have HO6 := Lib.hid (text_nosep (w := w) (l := l) (i := 0) (by have := HXX.out; omega) _ (by first | (rw [HTB.out]; done) | (rw [HTB.out]; rfl)) ▸ ho6 : Bld b b (Lib.byteCells (textS w l (0 + 1))) w6)
          have HB6 := Lib.hid (HB.out.trans (hb6.mono (Nat.le_refl _)))
          clear ho6 hb6
          go_wp2
          go_roundw
          case rel => exact ⟨0 + 1, by omega, by go_num, HO6.out, HB6.out⟩
          case measure => simp [intOf]; omega
        · have h0I : (0 : Int) < (i : Int) := by omega
          rcases Nat.eq_zero_or_pos X with hX0 | hX0
          · subst hX0
            have HTB : Hid (txB l i = 35) := by show _ = _; unfold txB; rw [HCC.out]; rfl
            go_wp2_with fail
            refine (bld_write b b _ 47 _ HO.out (by have := HLB.out; omega) HBS.out).mono ?_; rintro e w5 ⟨rfl, ho5, hb5⟩
            have HO5 := Lib.hid ho5
            have HB5 := Lib.hid hb5
            clear ho5 hb5
            have HBS5 := Lib.hid (Nat.le_trans HBS.out HB5.out.size)
            go_wp2_with fail
            refine (bld_write b b _ 35 _ HO5.out (by have := HLB.out; simp; omega) HBS5.out).mono ?_; rintro e w6 ⟨rfl, ho6, hb6⟩
            have HO6 := Lib.hid (text_sep (l := l) h0 (by rw [HXX.out]) _ (by first | (rw [HTB.out]; done) | (rw [HTB.out]; rfl)) ▸ ho6 : Bld b b (Lib.byteCells (textS w l (i + 1))) w6)
            have HB6 := Lib.hid ((HB.out.trans (HB5.out.mono (Nat.le_refl _))).trans (hb6.mono (Nat.le_refl _)))
            clear ho6 hb6
            go_wp2
            go_roundw
            case rel => exact ⟨i + 1, by omega, by go_num, HO6.out, HB6.out⟩
            case measure => simp [intOf]; omega
          · have xz : ((X : Int) == 0) = false := by rw [beq_eq_false_iff_ne]; omega
            have xn : ¬ X = 0 := by omega
            have HTB : Hid (txB l i = 35) := by show _ = _; unfold txB; rw [HCC.out]; rfl
            go_wp2_with fail
            refine (bld_write b b _ 35 _ HO.out (by have := HLB.out; omega) HBS.out).mono ?_; rintro e w6 ⟨rfl, ho6, hb6⟩
            have HO6 := Lib.hid (text_nosep (w := w) (l := l) (i := i) (by have := HXX.out; omega) _ (by first | (rw [HTB.out]; done) | (rw [HTB.out]; rfl)) ▸ ho6 : Bld b b (Lib.byteCells (textS w l (i + 1))) w6)
            have HB6 := Lib.hid (HB.out.trans (hb6.mono (Nat.le_refl _)))
            clear ho6 hb6
            go_wp2
            go_roundw
            case rel => exact ⟨i + 1, by omega, by go_num, HO6.out, HB6.out⟩
            case measure => simp [intOf]; omega
    · obtain rfl : i = n := by omega
      have ho := HO.out
      rw [← HTX.out] at ho
      have HO2 := Lib.hid ho
      clear ho HO
      go_wp2_with fail
      refine (bld_string b b _ _ HO2.out (by have := HB.out.size; have := HBB.out; omega)).mono ?_; rintro e w8 ⟨rfl, hb8⟩
      go_wp2
      go_ret2
      exact ⟨rfl, HBX.out.trans ((HC1.out.trans (((HBB.out.symm ▸ HB.out : Below w1.heap.size w1 wr).trans ((HBB.out.symm ▸ hb8 : Below w1.heap.size wr w8).mono (Nat.le_refl _))).mono HC1.out.size)).mono HBX.out.size)⟩
end Go.Proofs.YtnlpobkmjhajcaaDoor
