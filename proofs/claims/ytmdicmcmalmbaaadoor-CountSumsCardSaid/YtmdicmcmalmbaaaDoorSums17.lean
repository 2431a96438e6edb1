/- The walk of edenlaw17.CountSums. -/
import Derived.Test.YtmdicmcmalmbaaaDoorCountF
import Derived.Test.YtmdicmcmalmbaaaDoorCountR
import Derived.Test.YtmdicmcmalmbaaaDoorCountS
import Derived.Test.YtmdicmcmalmbaaaDoorLent
import Derived.Test.YtmdicmcmalmbaaaDoorRawIs
namespace Go.Proofs.YtmdicmcmalmbaaaDoor
open Go.RowKit
set_option linter.unusedVariables false
set_option maxRecDepth 100000

theorem sumTo_mono {f : Nat → Nat} {i : Nat} : ∀ {n : Nat}, i ≤ n → sumTo i f ≤ sumTo n f
  | 0, h => by rw [show i = 0 by omega]; exact Nat.le_refl _
  | n + 1, h => by
    rcases Nat.lt_or_eq_of_le h with h | h
    · exact Nat.le_trans (sumTo_mono (n := n) (by omega)) (Nat.le_add_right _ _)
    · rw [h]; exact Nat.le_refl _
theorem sumTo_step (f : Nat → Nat) (i : Nat) : sumTo (i + 1) f = sumTo i f + f i := rfl

/-- the numbers of the rings of n cells (none where there are no cells) -/
def rN (k N T n : Nat) (tb wl : List Int) : Nat := if n = 0 then 0 else ringsC k N T n (fitW tb wl) N
theorem wordsC_lenS {k N : Nat} {tb wl : List Int} (hN : 0 < N) (hT : N * k ≤ 16384) (hN4 : N ≤ 16384) : (limbs (wordsC k N tb wl)).length ≤ wl.length + 1 + 1 :=
  sum_len hN4 (Nat.le_refl _) (wv_lt hN hT (fun _ _ => by decide) wl.length)
theorem ringsC_lenS {k N T n : Nat} {p : Nat → Nat → Bool} (hN : 0 < N) (hT : T ≤ 16384) (hN4 : N ≤ 16384) : (limbs (ringsC k N T n p N)).length ≤ n + 1 + 1 :=
  sum_len hN4 (Nat.le_refl _) fun u hu => wv_lt hN hT (fun v _ => by unfold unitE; split <;> decide) n u hu
/-- all words' numbers of preimages -/
theorem sums_words {k r n : Nat} {l : List Int} (h : IsRule k r l) : sumTo (k ^ n) (fun i => wordsC k (k ^ (2 * r)) l (digsF k n i)) = k ^ (n + 2 * r) := by
  have k1 := h.k1
  rw [← sumW_digs (by omega) n fun s => wordsC k (k ^ (2 * r)) l s, sumW_wordsC (by omega) (Nat.pow_pos (by omega)) fun w hw => h.sym _ (by
    have : w < l.length := by rw [h.len, Nat.pow_succ]; exact hw
    simp [this]), Nat.pow_add, Nat.mul_comm]
theorem sums_rings {k r n T : Nat} {l : List Int} (h : IsRule k r l) (hT : T = k ^ (2 * r) * k) : sumTo (k ^ n) (fun i => rN k (k ^ (2 * r)) T n l (digsF k n i)) = if n = 0 then 0 else k ^ n := by
  have k1 := h.k1
  by_cases hn : n = 0
  · rw [if_pos hn, sumTo_zero fun i _ => by unfold rN; rw [if_pos hn]]
  · rw [if_neg hn, sumTo_congr (g := fun i => sumTo (k ^ (2 * r)) fun u => wayG k (k ^ (2 * r)) l (unitE u) (digsF k n i) u) fun i _ => by
      unfold rN; rw [if_neg hn, hT]
      exact ringsC_wayG (digsF_len k n i).symm]
    rw [← sumW_digs (by omega) n fun s => sumTo (k ^ (2 * r)) fun u => wayG k (k ^ (2 * r)) l (unitE u) s u]
    exact sumW_ringsC (by omega) (by omega) fun w hw => h.sym _ (by
      have : w < l.length := by rw [h.len, Nat.pow_succ]; exact hw
      simp [this])

theorem pow_sum (k n r : Nat) (W : World) (hk : k < B32) (hn : n + 2 * r ≤ 1024) :
    Calls Tryd.prog 46 #[.int .u32 k, .int .i64 ((n : Int) + 2 * (r : Int))] W fun e w' => ∃ a' n' c', e = .returned (.tuple #[.slice a' n' c', .nilIface]) ∧ w'.ownsRow W.heap.size 75 1 (.slice a' n' c') n' ((ofN (limbs (k ^ (n + 2 * r)))).map (Value.int .u32)) ∧ NV w' a' n' c' (k ^ (n + 2 * r)) ∧ Below W.heap.size W w' := by
  rw [show (n : Int) + 2 * (r : Int) = ((n + 2 * r : Nat) : Int) by omega]
  exact pow_any k (n + 2 * r) W hk hn

/-- what a place holds while the words are gone through -/
structure WordAt (w : World) (a : Option Addr) (n c : Nat) (l : List Int) : Prop where
  rk : RK .i64 w a n l
  le : n ≤ c
  nn : a = none → c = 0
theorem WordAt.up {w w' : World} {a : Option Addr} {n c : Nat} {l : List Int} (h : WordAt w a n c l) (hb : Below w.heap.size w w') : WordAt w' a n c l := ⟨h.rk.up hb, h.le, h.nn⟩

theorem next_digs (k n i : Nat) (a : Option Addr) (m c : Nat) (W : World) (R : Nat → Addr) (hG : Glob W R) (hw : WordAt W a m c (digsF k n i)) (k1 : 1 ≤ k) (k4 : k ≤ 4) (hn : n ≤ 8) (hi : i < k ^ n) :
    Calls Tryd.prog 45 #[.int .i64 k, .slice a m c] W fun e w' => ∃ a' m' c', e = .returned (.tuple #[.slice a' m' c', .nilIface]) ∧ (i + 1 < k ^ n → WordAt w' a' m' c' (digsF k n (i + 1))) ∧ Below W.heap.size W w' := by
  have hm := hw.rk.len
  rw [digsF_len] at hm
  have hck : chkErr (k : Int) (digsF k n i) = none := chk_none_of (by omega) (by omega) (by rw [digsF_len]; omega) (digsF_mem k1 n i hi)
  rcases lastUp_or (k : Int) (digsF k n i) with ⟨j, hj⟩ | hno
  · refine (next_up (k : Int) a m c _ W R hG hw.rk (by omega) hw.le hw.nn hck j hj).mono ?_
    rintro e w' ⟨a', c', rfl, ho, hb⟩
    refine ⟨a', m, c', rfl, fun hi1 => ?_, hb⟩
    rw [next_digsF k1 hi1 hj] at ho
    obtain ⟨h1, h2, h3⟩ := own_cap ho
    exact ⟨RK.of_own ho, h1, h3⟩
  · refine (next_all (k : Int) a m c _ W R hG hw.rk (by omega) hw.le hw.nn hck hno).mono ?_
    rintro e w' ⟨h1, _⟩
    obtain ⟨a', c', rfl, _, hb⟩ := h1 (by omega)
    exact ⟨a', m + 1, c', rfl, fun hi1 => absurd hno (noUp_digsF k1 hi1), hb⟩

theorem sums17_err (k r x : Int) (a : Option Addr) (n c : Nat) (l : List Int) (W : World) (R : Nat → Addr) (hG : Glob W R) (hR : RK .i64 W a n l) (hm : n ≤ maxLen) (h : ∀ kn rn : Nat, k = kn → r = rn → IsRule kn rn l → ¬ n ≤ 256) :
    Calls Tryd.prog 9 #[ruleV k r a n c, .int .i64 x] W (TrueBelow W) := by
  have HH := Lib.hid h; clear h
  have HG := Lib.hid hG; clear hG
  have HR := Lib.hid hR; clear hR
  obtain ⟨Wb, hWb⟩ : ∃ Wb, W.alloc (.cells #[.int .i64 k, .int .i64 r, .slice a n c] 66) = Wb := ⟨_, rfl⟩
  have HX : Hid (Wb.cell? ⟨W.heap.size, 0, none⟩ = some (.int .i64 k) ∧ Wb.cell? ⟨W.heap.size, 1, none⟩ = some (.int .i64 r) ∧ Wb.cell? ⟨W.heap.size, 2, none⟩ = some (.slice a n c)) := by rw [← hWb]; exact ⟨by simp, by simp, by simp⟩
  have HSZ : Hid (W.heap.size < Wb.heap.size) := by show _ < _; rw [← hWb]; simp
  have HBX : Hid (Below W.heap.size W Wb) := by rw [← hWb]; exact balloc (bnil W) _
  have HWB := Lib.hid hWb; clear hWb
  go_enter Tryd.func9, Tryd.ntmps9
  go_wp2_with fail
  rw [HWB.out]
  refine (awake17 _ R (HG.out.up HBX.out)).mono ?_; rintro e w1 ⟨rfl, hb1⟩
  have x0 := (hb1.cell (p := ⟨W.heap.size, 0, none⟩) HSZ.out).trans HX.out.1
  have x1 := (hb1.cell (p := ⟨W.heap.size, 1, none⟩) HSZ.out).trans HX.out.2.1
  have x2 := (hb1.cell (p := ⟨W.heap.size, 2, none⟩) HSZ.out).trans HX.out.2.2
  have hb1W := HBX.out.trans (hb1.mono HBX.out.size)
  go_wp2_with fail
  refine (countWords_err k r a none n c 0 0 l [] _ R (HG.out.up hb1W) (HR.out.up hb1W) RK.nil hm (Nat.zero_le _) fun kn rn h1 h2 h3 h4 => absurd h4 (HH.out kn rn h1 h2 h3)).mono ?_; rintro e w2 ⟨g2, rfl, hb2⟩
  go_wp2
  go_ret
  exact ⟨rfl, bstep hb1W hb2⟩

set_option maxHeartbeats 16000000 in
theorem sums17_ok (k r : Nat) (x : Int) (a : Option Addr) (n c : Nat) (l : List Int) (W : World) (R : Nat → Addr) (hG : Glob W R) (hR : RK .i64 W a n l) (h : IsRule k r l) (hn : n ≤ 256) (hnc : n ≤ c) (hcm : c ≤ maxLen) :
    Calls Tryd.prog 9 #[ruleV k r a n c, .int .i64 x] W (TrueBelow W) := by
  have k1 := h.k1
  have k4 := h.k4
  have r3 := h.r3
  have hnod := h.nodes hR.len
  have HND := Lib.hid hnod; clear hnod
  have H := Lib.hid h; clear h
  have HG := Lib.hid hG; clear hG
  have HR := Lib.hid hR; clear hR
  have q1 := Int.lt_tmod_of_pos x (show (0 : Int) < 8 by omega)
  have q2 := Int.tmod_lt_of_pos x (show (0 : Int) < 8 by omega)
  obtain ⟨N, hN, hN8⟩ : ∃ N : Nat, (x.tmod 8 + 8) % 8 = (N : Int) ∧ N < 8 := ⟨((x.tmod 8 + 8) % 8).toNat, by omega, by omega⟩
  obtain ⟨Wb, hWb⟩ : ∃ Wb, W.alloc (.cells #[.int .i64 k, .int .i64 r, .slice a n c] 66) = Wb := ⟨_, rfl⟩
  have HX : Hid (Wb.cell? ⟨W.heap.size, 0, none⟩ = some (.int .i64 k) ∧ Wb.cell? ⟨W.heap.size, 1, none⟩ = some (.int .i64 r) ∧ Wb.cell? ⟨W.heap.size, 2, none⟩ = some (.slice a n c)) := by rw [← hWb]; exact ⟨by simp, by simp, by simp⟩
  have HSZ : Hid (W.heap.size < Wb.heap.size) := by show _ < _; rw [← hWb]; simp
  have HBX : Hid (Below W.heap.size W Wb) := by rw [← hWb]; exact balloc (bnil W) _
  have HWB := Lib.hid hWb; clear hWb
  go_enter Tryd.func9, Tryd.ntmps9
  go_wp2_with fail
  rw [HWB.out]
  refine (awake17 _ R (HG.out.up HBX.out)).mono ?_; rintro e w1 ⟨rfl, hb1⟩
  have x0 := (hb1.cell (p := ⟨W.heap.size, 0, none⟩) HSZ.out).trans HX.out.1
  have x1 := (hb1.cell (p := ⟨W.heap.size, 1, none⟩) HSZ.out).trans HX.out.2.1
  have x2 := (hb1.cell (p := ⟨W.heap.size, 2, none⟩) HSZ.out).trans HX.out.2.2
  have HC1 := Lib.hid hb1
  have HB1 := Lib.hid (HBX.out.trans (hb1.mono HBX.out.size))
  clear hb1
  go_wp2_with fail
  refine (countWords_ok k r a none n c 0 0 l [] _ R (HG.out.up HB1.out) (HR.out.up HB1.out) RK.nil H.out hn hnc hcm (by decide) (fun x hx => by cases hx)).mono ?_; rintro e w2 ⟨a2, n2, c2, rfl, ho2, hb2⟩
  have HC2 := Lib.hid (bstep HC1.out hb2)
  have HB2 := Lib.hid (bstep HB1.out hb2)
  clear x0 x1 x2 ho2 hb2
  have x0 := (HC2.out.cell (p := ⟨W.heap.size, 0, none⟩) HSZ.out).trans HX.out.1
  have x1 := (HC2.out.cell (p := ⟨W.heap.size, 1, none⟩) HSZ.out).trans HX.out.2.1
  have x2 := (HC2.out.cell (p := ⟨W.heap.size, 2, none⟩) HSZ.out).trans HX.out.2.2
  obtain ⟨m, hm⟩ : ∃ m, k ^ N = m := ⟨_, rfl⟩
  have hmp : 0 < m := by rw [← hm]; exact Nat.pow_pos (by omega)
  by_cases h300 : 300 < m
  · go_wp2_with fail
    refine (all_big k N _ k1 k4 (by rw [hm]; exact h300) (by omega)).mono ?_; rintro e w3 ⟨rfl, rfl⟩
    go_wp2
    go_ret
    exact ⟨rfl, HB2.out⟩
  · have HM := Lib.hid hm
    clear hm
    go_wp2_with (first
      | (go_at_call 43; refine (all_small k N m _ k1 k4 HM.out.symm (by omega) (by omega)).mono ?_; rintro e w3 ⟨rfl, rfl⟩)
      | (at_make; refine mk_full rfl _ _ _ rfl w2.heap.size et_int .i64 .i64 _ _ N rfl rfl rfl rfl (by omega) (by unfold maxLen; omega) (Nat.le_refl _) ?_; intro w3 hown3 hb3 hsz3; rw [made_i64'] at hown3))
    have hr3 : WordAt w3 (some ⟨w2.heap.size, 0, none⟩) N N (digsF k N 0) := by
      rw [digsF_zero (by omega)]
      exact ⟨RK.of_own hown3, Nat.le_refl _, fun e => by cases e⟩
    have HW3 := Lib.hid hr3
    have HC3 := Lib.hid (bstep HC2.out hb3)
    clear hr3 hown3 hb3 hsz3 x0 x1 x2
    go_loopw [7, 8, 9, 10] (fun sx rx vx ix wr => ∃ (i : Nat) (a7 : Option Addr) (n7 c7 : Nat) (a8 : Option Addr) (n8 c8 : Nat) (a9 : Option Addr) (n9 c9 : Nat), i ≤ m ∧ ix = .int .i64 i ∧ sx = .slice a7 n7 c7 ∧ rx = .slice a8 n8 c8 ∧ vx = .slice a9 n9 c9 ∧
      OwN wr W.heap.size (a7, n7, c7) (limbs (sumTo i fun j => wordsC k (k ^ (2 * r)) l (digsF k N j))) ∧ OwN wr W.heap.size (a8, n8, c8) (limbs (sumTo i fun j => rN k (k ^ (2 * r)) n N l (digsF k N j))) ∧ (i < m → WordAt wr a9 n9 c9 (digsF k N i)) ∧ Below Wb.heap.size Wb wr) (fun _ _ _ ix _ => m - (intOf ix).toNat)
    case atStart => exact ⟨0, none, 0, 0, none, 0, 0, _, _, _, by omega, rfl, rfl, rfl, rfl, OwN.nil _ _, OwN.nil _ _, fun _ => HW3.out, HC3.out⟩
    case round =>
      clear HW3 HC3 HC2 HB2 HC1 HB1
      obtain ⟨i, a7, n7, c7, a8, n8, c8, a9, n9, c9, hi, rfl, rfl, rfl, rfl, ho7, ho8, hw9, hb⟩ := hrel
      have HO7 := Lib.hid ho7
      have HO8 := Lib.hid ho8
      have HW9 := Lib.hid hw9
      have HB := Lib.hid hb
      have HBW := Lib.hid (HBX.out.trans (hb.mono HBX.out.size))
      clear ho7 ho8 hw9 hb
      have x0 := (HB.out.cell (p := ⟨W.heap.size, 0, none⟩) HSZ.out).trans HX.out.1
      have x1 := (HB.out.cell (p := ⟨W.heap.size, 1, none⟩) HSZ.out).trans HX.out.2.1
      have x2 := (HB.out.cell (p := ⟨W.heap.size, 2, none⟩) HSZ.out).trans HX.out.2.2
      go_wp2_with fail
      refine (all_small k N m _ k1 k4 HM.out.symm (by omega) (by omega)).mono ?_; rintro e w4 ⟨rfl, rfl⟩
      by_cases him : i < m
      · have i0 : (i : Int) < (m : Int) := by omega
        have HW := Lib.hid (HW9.out him)
        have hn9 := HW.out.rk.len
        rw [digsF_len] at hn9
        obtain rfl : N = n9 := hn9.symm
        have hbw : sumTo (i + 1) (fun j => wordsC k (k ^ (2 * r)) l (digsF k N j)) ≤ 16384 * 300 := by
          refine Nat.le_trans (sumTo_mono (n := m) (by omega)) ?_
          rw [← HM.out, sums_words H.out, Nat.pow_add, Nat.mul_comm, HM.out]
          exact Nat.mul_le_mul (Nat.le_trans (Nat.le_mul_of_pos_right _ k1) (by rw [← HND.out.1]; exact HND.out.2.2)) (by omega)
        have hbr : sumTo (i + 1) (fun j => rN k (k ^ (2 * r)) n N l (digsF k N j)) ≤ 300 := by
          refine Nat.le_trans (sumTo_mono (n := m) (by omega)) ?_
          rw [← HM.out, sums_rings H.out HND.out.1]
          split
          · omega
          · rw [HM.out]; omega
        have hmem := digsF_mem (k := k) k1 N i (by rw [HM.out]; exact him)
        have HMEM := Lib.hid hmem
        have HBW1 := Lib.hid hbw
        have HBR1 := Lib.hid hbr
        have l7 := HO7.out.ns.small (L := 1) (limbs_len_le (by rw [Nat.pow_one]; exact Nat.lt_of_le_of_lt (Nat.le_trans (sumTo_mono (n := i + 1) (Nat.le_succ i)) hbw) (by decide)))
        have l8 := HO8.out.ns.small (L := 1) (limbs_len_le (by rw [Nat.pow_one]; exact Nat.lt_of_le_of_lt (Nat.le_trans (sumTo_mono (n := i + 1) (Nat.le_succ i)) hbr) (by decide)))
        simp only at l7 l8
        have hM1 : k ^ (2 * r) ≤ 16384 := Nat.le_trans (Nat.le_mul_of_pos_right _ k1) (by rw [← HND.out.1]; exact HND.out.2.2)
        have hMk : k ^ (2 * r) * k ≤ 16384 := by rw [← HND.out.1]; exact HND.out.2.2
        have HM1 := Lib.hid hM1
        have HMK := Lib.hid hMk
        clear hmem hbw hbr hM1 hMk
        go_wp2_with fail
        refine (countWords_ok k r a a9 n c N c9 l (digsF k N i) _ R (HG.out.up HBW.out) (HR.out.up HBW.out) HW.out.rk H.out hn hnc hcm (by omega) HMEM.out).mono ?_; rintro e w5 ⟨a5, n5, c5, rfl, ho5, hb5⟩
        have HO5 := Lib.hid ho5
        have l5 := ho5.ns.small (wordsC_lenS HND.out.2.1 HMK.out HM1.out)
        rw [digsF_len] at l5
        simp only at l5
        have HB5 := Lib.hid (bstep HB.out hb5)
        have HBW5 := Lib.hid (bstep HBW.out hb5)
        have HO7b := Lib.hid (HO7.out.up hb5)
        have HO8b := Lib.hid (HO8.out.up hb5)
        have HWb := Lib.hid (HW.out.up hb5)
        clear x0 x1 x2 ho5 hb5 HO7 HO8 HW HW9
        have x0 := (HB5.out.cell (p := ⟨W.heap.size, 0, none⟩) HSZ.out).trans HX.out.1
        have x1 := (HB5.out.cell (p := ⟨W.heap.size, 1, none⟩) HSZ.out).trans HX.out.2.1
        have x2 := (HB5.out.cell (p := ⟨W.heap.size, 2, none⟩) HSZ.out).trans HX.out.2.2
        go_wp2_with fail
        refine (add_any a7 a5 n7 n5 c7 c5 _ _ _ HO7b.out.ns.nr HO5.out.ns.nr (by omega) (by omega)).mono ?_; rintro e w6 ⟨a6, n6, c6, rfl, ho6, hv6, hb6⟩
        rw [val_limbs, val_limbs, ← sumTo_step] at ho6
        have HO6 : Hid (OwN w6 W.heap.size (a6, n6, c6) (limbs (sumTo (i + 1) fun j => wordsC k (k ^ (2 * r)) l (digsF k N j)))) := OwN.base ⟨ho6, limbs_u32 _⟩ HBW5.out.size
        have HB6 := Lib.hid (bstep HB5.out hb6)
        have HBW6 := Lib.hid (bstep HBW5.out hb6)
        have HO8c := Lib.hid (HO8b.out.up hb6)
        have HWc := Lib.hid (HWb.out.up hb6)
        clear x0 x1 x2 ho6 hv6 hb6 HO7b HO8b HWb HO5
        have x0 := (HB6.out.cell (p := ⟨W.heap.size, 0, none⟩) HSZ.out).trans HX.out.1
        have x1 := (HB6.out.cell (p := ⟨W.heap.size, 1, none⟩) HSZ.out).trans HX.out.2.1
        have x2 := (HB6.out.cell (p := ⟨W.heap.size, 2, none⟩) HSZ.out).trans HX.out.2.2
        by_cases hN0 : 0 < N
        · have hN0' : (0 : Int) < (N : Int) := by omega
          go_wp2_with fail
          refine (countRings_ok k r a a9 n c N c9 l (digsF k N i) _ R (HG.out.up HBW6.out) (HR.out.up HBW6.out) HWc.out.rk H.out hn hnc hcm (by omega) (by omega) HMEM.out).mono ?_; rintro e w7 ⟨aa, na, ca, rfl, hoa, hba⟩
          have HOA := Lib.hid hoa
          have la := hoa.ns.small (ringsC_lenS HND.out.2.1 HND.out.2.2 HM1.out)
          simp only at la
          have HB7 := Lib.hid (bstep HB6.out hba)
          have HBW7 := Lib.hid (bstep HBW6.out hba)
          have HO8d := Lib.hid (HO8c.out.up hba)
          have HO6d := Lib.hid (HO6.out.up hba)
          have HWd := Lib.hid (HWc.out.up hba)
          clear x0 x1 x2 hoa hba HO8c HO6 HWc
          have x0 := (HB7.out.cell (p := ⟨W.heap.size, 0, none⟩) HSZ.out).trans HX.out.1
          have x1 := (HB7.out.cell (p := ⟨W.heap.size, 1, none⟩) HSZ.out).trans HX.out.2.1
          have x2 := (HB7.out.cell (p := ⟨W.heap.size, 2, none⟩) HSZ.out).trans HX.out.2.2
          go_wp2_with fail
          refine (add_any a8 aa n8 na c8 ca _ _ _ HO8d.out.ns.nr HOA.out.ns.nr (by omega) (by omega)).mono ?_; rintro e w8 ⟨ab, nb, cb, rfl, hob, hvb, hbb⟩
          have erN : ringsC k (k ^ (2 * r)) n N (fitW l (digsF k N i)) (k ^ (2 * r)) = rN k (k ^ (2 * r)) n N l (digsF k N i) := by
            unfold rN; rw [if_neg (by omega)]
          rw [val_limbs, val_limbs, erN, ← sumTo_step fun j => rN k (k ^ (2 * r)) n N l (digsF k N j)] at hob
          have HOB : Hid (OwN w8 W.heap.size (ab, nb, cb) (limbs (sumTo (i + 1) fun j => rN k (k ^ (2 * r)) n N l (digsF k N j)))) := OwN.base ⟨hob, limbs_u32 _⟩ HBW7.out.size
          have HB8 := Lib.hid (bstep HB7.out hbb)
          have HBW8 := Lib.hid (bstep HBW7.out hbb)
          have HO6e := Lib.hid (HO6d.out.up hbb)
          have HWe := Lib.hid (HWd.out.up hbb)
          clear x0 x1 x2 hob hvb hbb HO6d HWd HOA HO8d erN
          have x0 := (HB8.out.cell (p := ⟨W.heap.size, 0, none⟩) HSZ.out).trans HX.out.1
          have x1 := (HB8.out.cell (p := ⟨W.heap.size, 1, none⟩) HSZ.out).trans HX.out.2.1
          have x2 := (HB8.out.cell (p := ⟨W.heap.size, 2, none⟩) HSZ.out).trans HX.out.2.2
          go_wp2_with fail
          refine (next_digs k N i a9 N c9 _ R (HG.out.up HBW8.out) HWe.out k1 k4 (by omega) (by rw [HM.out]; exact him)).mono ?_; rintro e w9 ⟨ac, nc, cc, rfl, hwc, hbc⟩
          rw [HM.out] at hwc
          have HWC := Lib.hid hwc
          have HO6f := Lib.hid (HO6e.out.up hbc)
          have HOBf := Lib.hid (HOB.out.up hbc)
          have HB9 := Lib.hid (bstep HB8.out hbc)
          clear hwc hbc
          go_wp2
          go_roundw
          case rel => exact ⟨i + 1, _, _, _, _, _, _, _, _, _, by omega, by go_num, rfl, rfl, rfl, HO6f.out, HOBf.out, HWC.out, HB9.out⟩
          case measure => simp [intOf]; omega
        · have hN0' : ¬ ((0 : Int) < (N : Int)) := by omega
          have erN : rN k (k ^ (2 * r)) n N l (digsF k N i) = 0 := by unfold rN; rw [if_pos (by omega)]
          have eS : (sumTo (i + 1) fun j => rN k (k ^ (2 * r)) n N l (digsF k N j)) = sumTo i fun j => rN k (k ^ (2 * r)) n N l (digsF k N j) := by rw [sumTo_step, erN, Nat.add_zero]
          have HES := Lib.hid eS
          clear erN eS
          go_wp2_with fail
          refine (next_digs k N i a9 N c9 _ R (HG.out.up HBW6.out) HWc.out k1 k4 (by omega) (by rw [HM.out]; exact him)).mono ?_; rintro e w9 ⟨ac, nc, cc, rfl, hwc, hbc⟩
          rw [HM.out] at hwc
          have HWC := Lib.hid hwc
          have HO6f := Lib.hid (HO6.out.up hbc)
          have ho8f := HO8c.out.up hbc
          rw [← HES.out] at ho8f
          have HOBf := Lib.hid ho8f
          have HB9 := Lib.hid (bstep HB6.out hbc)
          clear hwc hbc ho8f
          go_wp2
          go_roundw
          case rel => exact ⟨i + 1, _, _, _, _, _, _, _, _, _, by omega, by go_num, rfl, rfl, rfl, HO6f.out, HOBf.out, HWC.out, HB9.out⟩
          case measure => simp [intOf]; omega
      · obtain rfl : m = i := by omega
        have e7 : (sumTo m fun j => wordsC k (k ^ (2 * r)) l (digsF k N j)) = k ^ (N + 2 * r) := by
          have := sums_words (n := N) H.out
          rwa [HM.out] at this
        have e8 : (sumTo m fun j => rN k (k ^ (2 * r)) n N l (digsF k N j)) = if N = 0 then 0 else k ^ N := by
          have := sums_rings (n := N) H.out HND.out.1
          rw [HM.out] at this ⊢
          exact this
        have ho7 := HO7.out
        have ho8 := HO8.out
        rw [e7] at ho7
        rw [e8] at ho8
        have HP7 := Lib.hid ho7
        have HP8 := Lib.hid ho8
        clear e7 e8 ho7 ho8 HO7 HO8 HW9
        have hk32 : k < B32 := by show k < 4294967296; omega
        go_wp2_with fail
        refine (pow_sum k N r _ hk32 (by omega)).mono ?_; rintro e w5 ⟨a5, n5, c5, rfl, ho5, hv5, hb5⟩
        have HV5 := Lib.hid hv5
        have HB5 := Lib.hid (bstep HB.out hb5)
        have HBW5 := Lib.hid (bstep HBW.out hb5)
        have HP7b := Lib.hid (HP7.out.up hb5)
        have HP8b := Lib.hid (HP8.out.up hb5)
        clear x0 x1 x2 ho5 hv5 hb5 HP7 HP8
        have x0 := (HB5.out.cell (p := ⟨W.heap.size, 0, none⟩) HSZ.out).trans HX.out.1
        have x1 := (HB5.out.cell (p := ⟨W.heap.size, 1, none⟩) HSZ.out).trans HX.out.2.1
        have x2 := (HB5.out.cell (p := ⟨W.heap.size, 2, none⟩) HSZ.out).trans HX.out.2.2
        go_wp2_with fail
        refine (pow_any k N _ hk32 (by omega)).mono ?_; rintro e w6 ⟨a6, n6, c6, rfl, ho6, hv6, hb6⟩
        have HV6 := Lib.hid hv6.ns
        have HV5b := Lib.hid (HV5.out.ns.up hb6)
        have HP7c := Lib.hid (HP7b.out.up hb6)
        have HP8c := Lib.hid (HP8b.out.up hb6)
        have HBW6 := Lib.hid (bstep HBW5.out hb6)
        clear x0 x1 x2 ho6 hv6 hb6 HP7b HP8b HV5
        go_wp2_with fail
        refine (nats_eq a7 a5 n7 n5 c7 c5 _ _ HP7c.out.ns.nr HV5b.out.nr (Nat.le_trans HP7c.out.ns.le HP7c.out.ns.cm)).mono ?_; rintro e w7 ⟨rfl, hb7⟩
        by_cases hN0 : N = 0
        · have hN0' : (N : Int) = 0 := by omega
          go_wp2
          go_ret
          exact ⟨rfl, bstep HBW6.out hb7⟩
        · have hN0' : ¬ (N : Int) = 0 := by omega
          have h8 := HP8c.out.up hb7
          rw [if_neg hN0] at h8
          have HP8d := Lib.hid h8
          have HV6b := Lib.hid (HV6.out.up hb7)
          have HBW7 := Lib.hid (bstep HBW6.out hb7)
          clear h8 hb7
          go_wp2_with fail
          refine (nats_eq a8 a6 n8 n6 c8 c6 _ _ HP8d.out.ns.nr HV6b.out.nr (Nat.le_trans HP8d.out.ns.le HP8d.out.ns.cm)).mono ?_; rintro e w8 ⟨rfl, hb8⟩
          go_wp2
          go_ret
          exact ⟨rfl, bstep HBW7.out hb8⟩

theorem sums17_row (k r : Int) (a : Option Addr) (n c : Nat) (l : List Int) (x : Int) (W : World) (R : Nat → Addr) (hS : Sent W R) (hR : RK .i64 W a n l) (hnc : n ≤ c) (hcm : c ≤ maxLen) :
    Calls Tryd.prog 9 #[ruleV k r a n c, .int .i64 x] W (TrueBelow W) := by
  by_cases h : ∃ kn rn : Nat, k = kn ∧ r = rn ∧ IsRule kn rn l ∧ n ≤ 256
  · obtain ⟨kn, rn, rfl, rfl, hI, hn⟩ := h
    exact sums17_ok kn rn x a n c l W R hS.glob hR hI hn hnc hcm
  · exact sums17_err k r x a n c l W R hS.glob hR (Nat.le_trans hnc hcm) fun kn rn h1 h2 h3 h4 => h ⟨kn, rn, h1, h2, h3, h4⟩
end Go.Proofs.YtmdicmcmalmbaaaDoor
