/- The contract of word.Period. -/
import Derived.Test.YtnmegpplfbkpcaaDoorInts
import Derived.Test.YtnmegpplfbkpcaaDoorBase
import Derived.Test.YtnmegpplfbkpcaaDoorPer
import Derived.WalkKit
import Derived.Deep.QuietTactic
import Derived.BigQuiet
import Derived.Lib.Hide
namespace Go.Proofs.YtnmegpplfbkpcaaDoor
open Go.RowKit
set_option linter.unusedVariables false
set_option maxRecDepth 100000

def natC (bs : List Nat) : List Value := bs.map fun (x : Nat) => Value.int .i64 (x : Int)
theorem natC_set (bs : List Nat) (j x : Nat) : (natC bs).set j (.int .i64 (x : Int)) = natC (bs.set j x) := by simp [natC]
theorem natC_at (bs : List Nat) (j : Nat) (h : j < bs.length) : (natC bs)[j]? = some (.int .i64 (bs.getD j 0 : Nat)) := by simp [natC, h]
theorem made_int (n : Nat) : (madeCells (Value.int .i64 0).cells (n * 1)).toList = natC (List.replicate n 0) := by
  rw [show (Value.int .i64 0).cells = #[.int .i64 0] from by rfl, toList_madeCells_one]
  simp [natC]

/-- what the border's row holds at the head of a round -/
structure BrdAt (l : List Int) (bs : List Nat) (i : Nat) : Prop where
  len : bs.length = l.length + 1
  at_ : ∀ j, 1 ≤ j → j ≤ i → LBdr l (bs.getD j 0) j
theorem brd_start (l : List Int) : BrdAt l (List.replicate (l.length + 1) 0) 1 := by
  refine ⟨by simp, fun j h1 h2 => ?_⟩
  obtain rfl : j = 1 := by omega
  have : (List.replicate (l.length + 1) 0).getD 1 0 = 0 := by
    simp only [List.getD_eq_getElem?_getD, List.getElem?_replicate]
    split <;> rfl
  rw [this]
  exact lbdr_one l
theorem brd_set {l : List Int} {bs : List Nat} {i b : Nat} (h : BrdAt l bs i) (hi : i < l.length) (hb : LBdr l b (i + 1)) : BrdAt l (bs.set (i + 1) b) (i + 1) := by
  refine ⟨by simp [h.len], fun j h1 h2 => ?_⟩
  have hl := h.len
  by_cases e : j = i + 1
  · subst e
    have : (bs.set (i + 1) b).getD (i + 1) 0 = b := by simp [show i + 1 < bs.length by omega]
    rw [this]; exact hb
  · have : (bs.set (i + 1) b).getD j 0 = bs.getD j 0 := by
      simp only [List.getD_eq_getElem?_getD]
      rw [List.getElem?_set_ne (by omega)]
    rw [this]; exact h.at_ j h1 (by omega)

theorem per_rel {W wo w' : World} {l : List Int} {bs : List Nat} {n i b : Nat} {ix bx : Value} (h1 : 1 ≤ i) (h2 : i < n) (e1 : ix = .int .i64 ((i + 1 : Nat) : Int)) (e2 : bx = .int .i64 (b : Int)) (h3 : b < i + 1) (hl : LBdr l b (i + 1)) (hbr : BrdAt l (bs.set (i + 1) b) (i + 1))
    (hown : wo.ownsRow W.heap.size 3 1 (.slice (some ⟨W.heap.size, 0, none⟩) (n + 1) (n + 1)) (n + 1) (natC bs)) (hb : Below W.heap.size W wo) (m : Nat) (hw : w' = ((wo.drewN m).setCell ⟨W.heap.size, i + 1, none⟩ (.int .i64 (b : Int)))) :
    ∃ (i b : Nat) (bs : List Nat), 1 ≤ i ∧ i ≤ n ∧ ix = .int .i64 i ∧ bx = .int .i64 b ∧ b < i ∧ LBdr l b i ∧ BrdAt l bs i ∧ w'.ownsRow W.heap.size 3 1 (.slice (some ⟨W.heap.size, 0, none⟩) (n + 1) (n + 1)) (n + 1) (natC bs) ∧ Below W.heap.size W w' := by
  subst hw
  refine ⟨i + 1, b, _, by omega, by omega, e1, e2, h3, hl, hbr, ?_, ?_⟩
  · rw [← natC_set]
    exact own_set (owns_up hown (bdrewN (bnil _) m)) (i + 1) _
  · exact (bdrewN hb m).setCell (p := ⟨W.heap.size, i + 1, none⟩) (Nat.le_refl _) _

set_option maxHeartbeats 4000000 in
theorem period_any (a : Option Addr) (n c : Nat) (l : List Int) (W : World) (hR : RK .i64 W a n l) (hm : n * 8 ≤ 140737488351232) :
    Calls Tryd.prog 42 #[.slice a n c] W fun e w' => ∃ p : Nat, IsPer l p ∧ e = .returned (.int .i64 p) ∧ Below W.heap.size W w' := by
  have HL := Lib.hid hR.len
  have HR := Lib.hid hR; clear hR
  by_cases h0 : n = 0
  · have HP : Hid (IsPer l 0) := isPer_nil (by have := HL.out; omega)
    clear HL
    subst h0
    have hmk : ∀ w : World, (Instr.makeSlice 22 (.int .i64 1) (.int .i64 1)).run Tryd.prog w = .ok (.slice (some ⟨w.heap.size, 0, none⟩) 1 1) (w.alloc (.cells #[.int .i64 0] 3)) := fun _ => by kernel_rfl
    go_enter Tryd.func42, Tryd.ntmps42
    go_wp2_with fail
    go_loop [5] (fun i => i = .int .i64 1) (fun _ => 0)
    case atStart => rfl
    case round =>
      subst hrel
      go_wp2
      go_ret
      exact ⟨0, HP.out, rfl, balloc (bnil _) _⟩
  · go_enter Tryd.func42, Tryd.ntmps42
    go_wp2_with (first
      | (at_make; refine mk_full rfl _ _ _ rfl W.heap.size et_int .i64 .i64 _ _ (n + 1) rfl rfl (by omega) (by omega) (by omega) (by unfold maxLen; omega) (Nat.le_refl _) ?_; intro w1 hown1 hb1 hsz1))
    rw [made_int, show n + 1 = l.length + 1 from by have := HL.out; omega] at hown1
    have hown2 : w1.ownsRow W.heap.size 3 1 (.slice (some ⟨W.heap.size, 0, none⟩) (n + 1) (n + 1)) (n + 1) (natC (List.replicate (l.length + 1) 0)) := by
      rw [show n + 1 = l.length + 1 from by have := HL.out; omega]; exact hown1
    clear hown1
    go_loopw [5, 6] (fun ix bx wr => ∃ (i b : Nat) (bs : List Nat), 1 ≤ i ∧ i ≤ n ∧ ix = .int .i64 i ∧ bx = .int .i64 b ∧ b < i ∧ LBdr l b i ∧ BrdAt l bs i ∧ wr.ownsRow W.heap.size 3 1 (.slice (some ⟨W.heap.size, 0, none⟩) (n + 1) (n + 1)) (n + 1) (natC bs) ∧ Below W.heap.size W wr) (fun ix _ _ => n - (intOf ix).toNat)
    case atStart => exact ⟨1, 0, _, by omega, by omega, rfl, rfl, by omega, lbdr_one l, brd_start l, hown2, hb1⟩
    case round =>
      clear hown2
      obtain ⟨i, b, bs, hi1, hi2, rfl, rfl, hbi, hlb, hbrd, hown, hb⟩ := hrel
      by_cases hlt : i < n
      · have HC : Hid (Cand l b i) := cand_start hlb
        have HB := Lib.hid hbrd
        obtain ⟨pb, po, rfl, hpb, hc⟩ := (HR.out.up hb).addr (by omega)
        have HCELL := Lib.hid hc; clear hc
        clear hlb hbrd
        have c3 : wr.cell? ⟨W.heap.size, i + 1, none⟩ = some (.int .i64 (bs.getD (i + 1) 0 : Nat)) := by
          rw [hown.cellAt (i + 1) (by omega)]
          exact natC_at bs (i + 1) (by have := HB.out.len; have := HL.out; omega)
        have f3 := hown.frozenAt (i + 1)
        generalize bs.getD (i + 1) 0 = z3 at *
        generalize wr = wo at *
        go_wp2_with fail
        go_loopw [6] (fun bx wr => ∃ (b m : Nat), bx = .int .i64 b ∧ b < i ∧ Cand l b i ∧ wr = wo.drewN m) (fun bx _ => (intOf bx).toNat)
        case atStart => exact ⟨b, 0, rfl, hbi, HC.out, rfl⟩
        case round =>
          clear HC hbi
          obtain ⟨d, m, rfl, hdi, hcand, rfl⟩ := hrel
          have c0 := HCELL.out i hlt
          have c1 := HCELL.out d (by omega)
          have i0 : (0 : Int) ≤ (i : Int) := by omega
          have i1 : (i : Int) < (n : Int) := by omega
          have i2 : (0 : Int) ≤ (d : Int) := by omega
          have i3 : (d : Int) < (n : Int) := by omega
          by_cases hd0 : d = 0
          · have hdec : decide ((0 : Int) < (d : Int)) = false := by rw [hd0]; decide
            have hdec2 : decide (0 < d) = false := by rw [hd0]; decide
            by_cases heq : l.getD i 0 = l.getD d 0
            · have HN : Hid (LBdr l (d + 1) (i + 1)) := cand_hit hcand heq
              have hbq : (l.getD i 0 == l.getD d 0) = true := by simpa using heq
              have HB2 := Lib.hid (brd_set HB.out (by have := HL.out; omega) HN.out)
              clear hd0
              clear hcand heq
              generalize l.getD i 0 = z1 at *
              generalize l.getD d 0 = z2 at *
              go_wp2_with fail
              go_quiet (fail)
              generalize nq = q1 at *
              go_wp2_with fail
              go_quiet (fail)
              go_wp2
              go_roundw
              case rel => exact per_rel (b := d + 1) (by omega) (by omega) (by go_num) (by go_num) (by omega) HN.out HB2.out hown hb (m + q1 + nq) (by simp)
              case measure => simp [intOf]; omega
            · have HN : Hid (LBdr l d (i + 1)) := by
                have hc := hcand; have he := heq
                rw [hd0] at hc he ⊢
                exact cand_miss hc he
              have hbq : (l.getD i 0 == l.getD d 0) = false := by simpa using heq
              have HB2 := Lib.hid (brd_set HB.out (by have := HL.out; omega) HN.out)
              clear hd0
              clear hcand heq
              generalize l.getD i 0 = z1 at *
              generalize l.getD d 0 = z2 at *
              go_wp2_with fail
              go_quiet (fail)
              generalize nq = q1 at *
              go_wp2_with fail
              go_quiet (fail)
              go_wp2
              go_roundw
              case rel => exact per_rel (b := d) (by omega) (by omega) (by go_num) (by go_num) (by omega) HN.out HB2.out hown hb (m + q1 + nq) (by simp)
              case measure => simp [intOf]; omega
          · have hdp : 0 < d := by omega
            clear hd0
            by_cases heq : l.getD i 0 = l.getD d 0
            · have HN : Hid (LBdr l (d + 1) (i + 1)) := cand_hit hcand heq
              have hbq : (l.getD i 0 == l.getD d 0) = true := by simpa using heq
              have hbn : (l.getD i 0 != l.getD d 0) = false := by simpa using heq
              have HB2 := Lib.hid (brd_set HB.out (by have := HL.out; omega) HN.out)
              clear hcand heq
              generalize l.getD i 0 = z1 at *
              generalize l.getD d 0 = z2 at *
              go_wp2_with fail
              go_quiet (fail)
              generalize nq = q1 at *
              go_wp2_with fail
              go_quiet (fail)
              go_wp2
              go_roundw
              case rel => exact per_rel (b := d + 1) (by omega) (by omega) (by go_num) (by go_num) (by omega) HN.out HB2.out hown hb (m + q1 + nq) (by simp)
              case measure => simp [intOf]; omega
            · have hbn : (l.getD i 0 != l.getD d 0) = true := by simpa using heq
              have hld := HB.out.at_ d hdp (by omega)
              have HN : Hid (Cand l (bs.getD d 0) i) := cand_step hcand heq hld
              have hdd : bs.getD d 0 < d := hld.1.1
              have c2 : wo.cell? ⟨W.heap.size, d, none⟩ = some (.int .i64 (bs.getD d 0 : Nat)) := by
                rw [hown.cellAt d (by omega)]
                exact natC_at bs d (by have := HB.out.len; have := HL.out; omega)
              clear hcand heq hld
              generalize bs.getD d 0 = d2 at *
              generalize l.getD i 0 = z1 at *
              generalize l.getD d 0 = z2 at *
              go_wp2_with fail
              go_quiet (fail)
              go_wp2
              go_roundw
              case rel => exact ⟨d2, m + nq, rfl, by omega, HN.out, by simp⟩
              case measure => simp [intOf]; omega
      · obtain rfl : i = n := by omega
        have HP := Lib.hid (isPer_of_border (b := b) (l := l) (by rw [← HL.out]; exact hlb))
        have hbl := hbrd.at_ i (by omega) (Nat.le_refl _)
        have hbe : bs.getD i 0 = b := by
          have h1 := hbl.2 b hlb.1
          have h2 := hlb.2 _ hbl.1
          omega
        have c2 : wr.cell? ⟨W.heap.size, i, none⟩ = some (.int .i64 (b : Nat)) := by
          rw [hown.cellAt i (by omega), natC_at bs i (by have := hbrd.len; have := HL.out; omega), hbe]
        clear hbl hbe hlb hbrd
        obtain ⟨P, hP⟩ : ∃ P : Nat, i - b = P := ⟨_, rfl⟩
        have hP1 : 1 ≤ P := by omega
        have hPi : (i : Int) - (b : Int) = (P : Int) := by omega
        have hpz : (0 : Int) < (P : Int) := by omega
        have HPE : Hid (l.length - b = P) := Lib.hid (by have := HL.out; omega)
        clear hP
        by_cases hmod : i % P = 0
        · have hm1 : ((i : Int) % (P : Int) == 0) = true := by simp; omega
          have HF : Hid (IsPer l P) := by
            have := HP.out
            rw [HPE.out, ← HL.out, if_pos hmod] at this
            exact this
          clear hmod
          go_wp2
          go_ret
          exact ⟨P, HF.out, rfl, hb⟩
        · have hm1 : ((i : Int) % (P : Int) == 0) = false := by simp; omega
          have HF : Hid (IsPer l i) := by
            have := HP.out
            rw [HPE.out, ← HL.out, if_neg hmod] at this
            exact this
          clear hmod
          go_wp2
          go_ret
          exact ⟨i, HF.out, rfl, hb⟩
end Go.Proofs.YtnmegpplfbkpcaaDoor
