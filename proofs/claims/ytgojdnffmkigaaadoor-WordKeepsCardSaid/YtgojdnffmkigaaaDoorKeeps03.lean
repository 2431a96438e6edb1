/- The walk of edenlaw03.WordKeeps. -/
import Derived.Test.YtgojdnffmkigaaaDoorAwake03
import Derived.Test.YtgojdnffmkigaaaDoorWordS
import Derived.Test.YtgojdnffmkigaaaDoorWordR
import Derived.Test.YtgojdnffmkigaaaDoorLent
import Derived.Test.YtgojdnffmkigaaaDoorApart
import Derived.WalkKit
import Derived.Lib.Hide
namespace Go.Proofs.YtgojdnffmkigaaaDoor
open Go.RowKit
set_option linter.unusedVariables false
set_option maxRecDepth 100000

/-- the first k symbols stand where the last are read from -/
def BackAt (l cur : List Int) (k : Nat) : Prop := cur.length = l.length ∧ ∀ j, l.length - k ≤ j → j < l.length → cur.getD j 0 = l.getD (l.length - 1 - j) 0
theorem backAt_set {l cur : List Int} {k : Nat} (h : BackAt l cur k) (hk : k < l.length) : BackAt l (cur.set (l.length - 1 - k) (l.getD k 0)) (k + 1) := by
  obtain ⟨h1, h2⟩ := h
  refine ⟨by simp [h1], fun j hj hj2 => ?_⟩
  rw [set_get _ _ _ _ (by omega)]
  by_cases e : l.length - 1 - k = j
  · rw [if_pos e]; congr 1; omega
  · rw [if_neg e]; exact h2 j (by omega) hj2
theorem backAt_end {l cur : List Int} {k : Nat} (h : BackAt l cur k) (hk : l.length ≤ k) : cur = l.reverse := by
  apply List.ext_getElem (by simp [h.1])
  intro j a b
  have hj : j < l.length := by have := h.1; omega
  have e := h.2 j (by omega) hj
  have e1 : cur.getD j 0 = cur[j] := by simp [a]
  have e2 : l.getD (l.length - 1 - j) 0 = l[l.length - 1 - j]'(by omega) := by simp [show l.length - 1 - j < l.length by omega]
  rw [e1, e2] at e
  rw [e, List.getElem_reverse]

set_option maxHeartbeats 2000000 in
theorem refBack_any (a : Option Addr) (n c : Nat) (l : List Int) (W : World) (hR : RK .i64 W a n l) (hn8 : n * 8 ≤ 140737488351232) :
    Calls Tryd.prog 32 #[.slice a n c] W fun e w' => ∃ a' c', e = .returned (.slice a' n c') ∧ w'.ownsRow W.heap.size 3 1 (.slice a' n c') n (l.reverse.map (Value.int .i64)) ∧ Below W.heap.size W w' := by
  have HL := Lib.hid hR.len
  have HR := Lib.hid hR; clear hR
  go_enter Tryd.func32, Tryd.ntmps32
  go_wp2_with (first
    | (at_make; refine mk_full rfl _ _ _ rfl W.heap.size et_int .i64 .i64 _ _ n rfl rfl rfl rfl (by omega) (by unfold maxLen; omega) (Nat.le_refl _) ?_; intro w1 hown1 hb1 hsz1; rw [made_i64'] at hown1))
  go_loopw [4] (fun ix wr => ∃ (k : Nat) (cur : List Int), k ≤ n ∧ ix = .int .i64 k ∧ BackAt l cur k ∧ wr.ownsRow W.heap.size 3 1 (.slice (some ⟨W.heap.size, 0, none⟩) n n) n (cur.map (Value.int .i64)) ∧ Below W.heap.size W wr) (fun ix _ => n - (intOf ix).toNat)
  case atStart => exact ⟨0, _, by omega, rfl, ⟨by have := HL.out; simp; omega, fun j h1 h2 => by have := HL.out; omega⟩, hown1, hb1⟩
  case round =>
    clear hown1
    obtain ⟨k, cur, hk, rfl, hbk, hown, hb⟩ := hrel
    by_cases hlt : k < n
    · obtain ⟨b, o, rfl, hbo, hcell⟩ := HR.out.addr (by omega)
      have c1 := (hb.cell (p := ⟨b, o + k, none⟩) hbo).trans (hcell k hlt)
      clear hcell
      obtain ⟨r, hr⟩ : ∃ r, n - 1 - k = r := ⟨_, rfl⟩
      have hri : (n : Int) - 1 - (k : Int) = (r : Int) := by omega
      have hrn : r < n := by omega
      have hcl : cur.length = n := by have := hbk.1; have := HL.out; omega
      have c0 : wr.cell? ⟨W.heap.size, r, none⟩ = some (.int .i64 (cur.getD r 0)) := by rw [hown.cellAt r (by omega), map_at _ _ _ (by omega)]
      have f0 := hown.frozenAt r
      have hts := backAt_set hbk (by have := HL.out; omega)
      rw [← HL.out, hr] at hts
      have hst := own_set hown r (.int .i64 (l.getD k 0))
      rw [map_set64] at hst
      have HTS := Lib.hid hts
      have HST := Lib.hid hst
      clear hts hst hr hbk hcl hown
      have i0 : (0 : Int) ≤ (r : Int) := by omega
      have i1 : (r : Int) < (n : Int) := by omega
      have i2 : (0 : Int) ≤ (k : Int) := by omega
      have i3 : (k : Int) < (n : Int) := by omega
      generalize l.getD k 0 = z at *
      generalize cur.getD r 0 = z2 at *
      go_wp2
      go_roundw
      case rel => exact ⟨k + 1, _, by omega, by go_num, HTS.out, HST.out, hb.setCell (p := ⟨W.heap.size, r, none⟩) (Nat.le_refl _) _⟩
      case measure => simp [intOf]; omega
    · have HF : Hid (cur = l.reverse) := backAt_end hbk (by have := HL.out; omega)
      clear hbk
      go_wp2
      go_ret
      exact ⟨_, _, rfl, by rw [← HF.out]; exact hown, hb⟩

theorem times_one (a : Option Addr) (n c : Nat) (l : List Int) (W : World) (hR : RK .i64 W a n l) (hn : n ≤ 4096) :
    Calls Tryd.prog 15 #[.slice a n c, .int .i64 1] W fun e w' => ∃ a' c', e = .returned (.tuple #[.slice a' n c', .nilIface]) ∧ w'.ownsRow W.heap.size 3 1 (.slice a' n c') n (l.map (Value.int .i64)) ∧ Below W.heap.size W w' := by
  by_cases h0 : n = 0
  · subst h0
    have hl : l = [] := List.eq_nil_of_length_eq_zero hR.len.symm
    subst hl
    refine (times_nil a c 1 W (by omega)).mono fun e w' h => ?_
    obtain ⟨rfl, rfl⟩ := h
    exact ⟨_, _, rfl, World.ownsRow_nil _ _ _ _, bnil W⟩
  · refine (times_ok a n c 1 l W hR (by omega) (by omega) (by omega)).mono fun e w' h => ?_
    rw [Nat.mul_one] at h
    have e2 : repL l n = l := by
      rw [hR.len]
      refine ext_getD (repL_len l _) fun j hj => ?_
      rw [repL_len] at hj
      rw [repL_at l _ j hj, Nat.mod_eq_of_lt hj]
    rw [e2] at h
    exact h

theorem keeps03_big (a : Option Addr) (c : Nat) (l : List Int) (n : Int) (W : World) (R : Nat → Addr) (hG : Glob W R) (hb : 100 < l.length) (hn8 : l.length * 8 ≤ 140737488351232) :
    Calls Tryd.prog 7 #[.slice a l.length c, .int .i64 n] W (TrueBelow W) := by
  have HG := Lib.hid hG; clear hG
  go_enter Tryd.func7, Tryd.ntmps7
  go_wp2_with fail
  refine (awake03 _ R HG.out).mono ?_; rintro e w1 ⟨rfl, hb1⟩
  go_wp2
  go_ret
  exact ⟨rfl, hb1⟩

theorem turnAt_zero (n : Nat) : turnAt 0 n = 0 := by unfold turnAt; simp

set_option maxHeartbeats 8000000 in
theorem keeps03_ok (a : Option Addr) (L c : Nat) (l : List Int) (n : Int) (W : World) (R : Nat → Addr) (hG : Glob W R) (hS : Sl .i64 W a L c l) (h100 : L ≤ 100) :
    Calls Tryd.prog 7 #[.slice a L c, .int .i64 n] W (TrueBelow W) := by
  have hL8 : L * 8 ≤ 140737488351232 := by omega
  have hL2 : L + 2 ≤ maxLen := by unfold maxLen; omega
  have HG := Lib.hid hG; clear hG
  have HS := Lib.hid hS; clear hS
  go_enter Tryd.func7, Tryd.ntmps7
  go_wp2_with fail
  refine (awake03 _ R HG.out).mono ?_; rintro e w1 ⟨rfl, hb1⟩
  have HS1 := Lib.hid (HS.out.up hb1)
  go_wp2_with fail
  refine (lent_any a L c l _ HS1.out.rk hL8).mono ?_; rintro e w2 ⟨rfl, hown2, hb2⟩
  obtain ⟨gx, hgx⟩ : ∃ gx, w1.heap.size = gx := ⟨_, rfl⟩
  rw [hgx] at hown2
  rw [hgx]
  have hgx2 : gx < w2.heap.size := own_lt hown2 gx rfl
  have hX2 : RK .i64 w2 (some ⟨gx, 0, none⟩) (L + 2) (l ++ marksI) := RK.of_own hown2
  have hXs : Sl .i64 w2 (some ⟨gx, 0, none⟩) L (L + 2) l := ⟨rk_prefix hX2 HS1.out.len, by omega, hL2, fun e => by cases e⟩
  have HX2 := Lib.hid hown2
  have HXs := Lib.hid hXs
  have HXm := Lib.hid hX2
  clear hown2 hX2 hXs
  go_wp2_with fail
  refine (back_any (some ⟨gx, 0, none⟩) L (L + 2) l _ HXs.out.rk hL8 (by omega) (fun e => by cases e)).mono ?_; rintro e w3 ⟨a3, c3, rfl, hown3, hb3⟩
  have H3 := Lib.hid hown3; clear hown3
  go_wp2_with fail
  refine (turn_any (some ⟨gx, 0, none⟩) L (L + 2) l n _ (HXs.out.up hb3).rk (by omega) hL8 hL2 (fun e => by cases e)).mono ?_; rintro e w4 ⟨a4, c4, rfl, hown4, hb4⟩
  have H4 := Lib.hid hown4; clear hown4
  have b24 := bstep hb3 hb4
  go_wp2_with fail
  refine (turn_any (some ⟨gx, 0, none⟩) L (L + 2) l 0 _ (HXs.out.up b24).rk (by omega) hL8 hL2 (fun e => by cases e)).mono ?_; rintro e w5 ⟨a5, c5, rfl, hown5, hb5⟩
  rw [turnAt_zero, rot_zero] at hown5
  have H5 := Lib.hid hown5; clear hown5
  have b25 := bstep b24 hb5
  go_wp2_with fail
  refine (times_one (some ⟨gx, 0, none⟩) L (L + 2) l _ (HXs.out.up b25).rk (by omega)).mono ?_; rintro e w6 ⟨a6, c6, rfl, hown6, hb6⟩
  have H6 := Lib.hid hown6; clear hown6
  have b26 := bstep b25 hb6
  go_wp2_with fail
  refine (times_one (some ⟨gx, 0, none⟩) L (L + 2) l _ (HXs.out.up b26).rk (by omega)).mono ?_; rintro e w7 ⟨a7, c7, rfl, hown7, hb7⟩
  have H7 := Lib.hid hown7; clear hown7
  have b27 := bstep b26 hb7
  go_wp2_with fail
  refine (back_any (some ⟨gx, 0, none⟩) L (L + 2) l _ (HXs.out.up b27).rk hL8 (by omega) (fun e => by cases e)).mono ?_; rintro e w8 ⟨a8, c8, rfl, hown8, hb8⟩
  have H8 := Lib.hid hown8; clear hown8
  have b28 := bstep b27 hb8
  have b12 := hb2
  -- the answers, in the world behind them
  have b38 := bstep (bstep (bstep (bstep hb4 hb5) hb6) hb7) hb8
  have b48 := bstep (bstep (bstep hb5 hb6) hb7) hb8
  have b58 := bstep (bstep hb6 hb7) hb8
  have b68 := bstep hb7 hb8
  have P3 := Lib.hid (owns_up H3.out b38)
  have P4 := Lib.hid (owns_up H4.out b48)
  have P5 := Lib.hid (owns_up H5.out b58)
  have P6 := Lib.hid (owns_up H6.out b68)
  have P7 := Lib.hid (owns_up H7.out hb8)
  have A34 := Lib.hid (ap_later H3.out H4.out (Nat.le_refl _))
  have A35 := Lib.hid (ap_later H3.out H5.out hb4.size)
  have A36 := Lib.hid (ap_later H3.out H6.out (bstep hb4 hb5).size)
  have A37 := Lib.hid (ap_later H3.out H7.out (bstep (bstep hb4 hb5) hb6).size)
  have A38 := Lib.hid (ap_later H3.out H8.out (bstep (bstep (bstep hb4 hb5) hb6) hb7).size)
  have A45 := Lib.hid (ap_later H4.out H5.out (Nat.le_refl _))
  have A46 := Lib.hid (ap_later H4.out H6.out hb5.size)
  have A47 := Lib.hid (ap_later H4.out H7.out (bstep hb5 hb6).size)
  have A48 := Lib.hid (ap_later H4.out H8.out (bstep (bstep hb5 hb6) hb7).size)
  have A56 := Lib.hid (ap_later H5.out H6.out (Nat.le_refl _))
  have A57 := Lib.hid (ap_later H5.out H7.out hb6.size)
  have A58 := Lib.hid (ap_later H5.out H8.out (bstep hb6 hb7).size)
  have A67 := Lib.hid (ap_later H6.out H7.out (Nat.le_refl _))
  have A68 := Lib.hid (ap_later H6.out H8.out hb7.size)
  have A78 := Lib.hid (ap_later H7.out H8.out (Nat.le_refl _))
  have Q3 := Lib.hid (owns_base P3.out (Nat.le_refl w2.heap.size))
  have Q4 := Lib.hid (owns_base P4.out hb3.size)
  have Q5 := Lib.hid (owns_base P5.out b24.size)
  have Q6 := Lib.hid (owns_base P6.out b25.size)
  have Q7 := Lib.hid (owns_base P7.out b26.size)
  have Q8 := Lib.hid (owns_base H8.out b27.size)
  have HXm8 := Lib.hid (HXm.out.up b28)
  have HX8 := Lib.hid (owns_up HX2.out b28)
  have HS8 := Lib.hid (HS1.out.up (bstep hb2 b28))
  have hbW8 := bstep (bstep hb1 hb2) b28
  have s28 := b28.size
  clear H3 H4 H5 H6 H7 H8 P3 P4 P5 P6 P7 b38 b48 b58 b68 b24 b25 b26 b27 hb3 hb4 hb5 hb6 hb7 hb8 b12 HX2 HXm
  go_wp2_with fail
  refine (kept_any gx L (L + 2) c a l _ HXm8.out (by omega) hL2 HS8.out.rk hL8).mono ?_; rintro e w9 ⟨rfl, hb9⟩
  go_wp2_with fail
  refine (ints_sl _ _ _ _ _ _ l l _ ((RK.of_own Q5.out).up hb9) (HS8.out.up hb9).rk rfl hL8).mono ?_; rintro e w10 ⟨rfl, hb10⟩
  have b810 := bstep hb9 hb10
  go_wp2_with fail
  refine (ints_sl _ _ _ _ _ _ l l _ ((RK.of_own Q6.out).up b810) (HS8.out.up b810).rk rfl hL8).mono ?_; rintro e w11 ⟨rfl, hb11⟩
  have b811 := bstep b810 hb11
  go_wp2_with fail
  refine (ints_sl _ _ _ _ _ _ l l _ ((RK.of_own Q7.out).up b811) (HS8.out.up b811).rk rfl hL8).mono ?_; rintro e w12 ⟨rfl, hb12⟩
  have b812 := bstep b811 hb12
  go_wp2_with fail
  refine (ints_sl _ _ _ _ _ _ l.reverse l.reverse _ ((RK.of_own Q3.out).up b812) ((RK.of_own Q8.out).up b812) rfl hL8).mono ?_; rintro e w13 ⟨rfl, hb13⟩
  have b813 := bstep b812 hb13
  go_wp2_with fail
  have HX13 := Lib.hid (owns_up HX8.out b813)
  have R3 := Lib.hid (owns_up Q3.out b813)
  have R4 := Lib.hid (owns_up Q4.out b813)
  have R5 := Lib.hid (owns_up Q5.out b813)
  have R6 := Lib.hid (owns_up Q6.out b813)
  have R7 := Lib.hid (owns_up Q7.out b813)
  have R8 := Lib.hid (owns_up Q8.out b813)
  have HS13 := Lib.hid (HS8.out.up b813)
  have hbW13 := bstep hbW8 b813
  have s213 : w2.heap.size ≤ w13.heap.size := Nat.le_trans s28 b813.size
  have hgW : W.heap.size ≤ gx := by rw [← hgx]; exact hb1.size
  have hLl : Hid (l.length = L) := HS1.out.len.symm
  clear HX8 Q3 Q4 Q5 Q6 Q7 Q8 HS8 hbW8 b813 b812 b811 b810 hb9 hb10 hb11 hb12 hb13 HXm8 hb2 b28 HXs
  go_loopw [14] (fun ix wr => ∃ (k : Nat) (l2 : List Int), k ≤ L ∧ ix = .int .i64 k ∧ l2.length = L ∧ wr.ownsRow gx 3 1 (.slice (some ⟨gx, 0, none⟩) (L + 2) (L + 2)) (L + 2) ((l2 ++ marksI).map (Value.int .i64)) ∧ (∀ b, b ≠ gx → wr.heap[b]? = w13.heap[b]?) ∧ wr.heap.size = w13.heap.size ∧ Below W.heap.size W wr) (fun ix _ => L - (intOf ix).toNat)
  case atStart => exact ⟨0, l, by omega, rfl, hLl.out, HX13.out, fun _ _ => rfl, rfl, hbW13⟩
  case round =>
    clear HX13
    obtain ⟨k, l2, hk, rfl, hl2, hown, hoth, hsz, hb⟩ := hrel
    have HO := Lib.hid hoth; clear hoth
    have HSZ := Lib.hid hsz; clear hsz
    have HL2 := Lib.hid hl2; clear hl2
    by_cases hlt : k < L
    · have c0 : wr.cell? ⟨gx, k, none⟩ = some (.int .i64 ((l2 ++ marksI).getD k 0)) := by rw [hown.cellAt k (by omega), map_at _ _ _ (by have := HL2.out; simp; omega)]
      have f0 := hown.frozenAt k
      have hst : ∀ e : Int, (wr.setCell ⟨gx, k, none⟩ (.int .i64 e)).ownsRow gx 3 1 (.slice (some ⟨gx, 0, none⟩) (L + 2) (L + 2)) (L + 2) ((l2.set k e ++ marksI).map (Value.int .i64)) := by
        intro e
        have := own_set hown k (.int .i64 e)
        rw [map_set64, List.set_append_left _ _ (by have := HL2.out; omega)] at this
        exact this
      have HST := Lib.hid hst
      clear hst hown
      have i0 : (0 : Int) ≤ (k : Int) := by omega
      have i1 : (k : Int) < (L : Int) := by omega
      generalize (l2 ++ marksI).getD k 0 = z at *
      go_wp2
      go_roundw
      case rel => exact ⟨k + 1, _, by omega, by go_num, by have := HL2.out; simp; omega, HST.out _, fun b hne => (Below.heap_setCell wr ⟨gx, k, none⟩ _ b hne).trans (HO.out b hne), by simp [World.setCell]; exact HSZ.out, hb.setCell (p := ⟨gx, k, none⟩) hgW _⟩
      case measure => simp [intOf]; omega
    · have hne : ∀ {v : Value} {n : Nat} {cs : List Value}, w13.ownsRow w2.heap.size 3 1 v n cs → wr.ownsRow w2.heap.size 3 1 v n cs := fun {v n cs} h => own_of_heap h fun b hb2 => HO.out b (by have := (h.lt b hb2).1; omega)
      have T3 := Lib.hid (hne R3.out)
      have T4 := Lib.hid (hne R4.out)
      have T5 := Lib.hid (hne R5.out)
      have T6 := Lib.hid (hne R6.out)
      have T7 := Lib.hid (hne R7.out)
      have T8 := Lib.hid (hne R8.out)
      have hX : RK .i64 wr (some ⟨gx, 0, none⟩) (L + 2) (l2 ++ marksI) := RK.of_own hown
      have hXs : Sl .i64 wr (some ⟨gx, 0, none⟩) L (L + 2) l2 := ⟨rk_prefix hX HL2.out.symm, by omega, hL2, fun e => by cases e⟩
      have HSr := Lib.hid (HS.out.up hb)
      have HXs := Lib.hid hXs
      have s2r : w2.heap.size ≤ wr.heap.size := by rw [HSZ.out]; exact s213
      have hge : (L : Int) ≤ (k : Int) := by omega
      clear hne R3 R4 R5 R6 R7 R8 hX hXs hown HO HSZ hlt HS13 hbW13 s213
      generalize wr = v0 at *
      go_wp2_with fail
      refine (copy_any (some ⟨gx, 0, none⟩) L (L + 2) l2 _ HXs.out.rk hL8 (fun e => by cases e)).mono ?_; rintro e v1 ⟨ay, cy, rfl, howny, hv1⟩
      have HY := Lib.hid howny; clear howny
      go_wp2_with fail
      refine (ints_sl _ _ _ _ _ _ l l _ ((RK.of_own T5.out).up hv1) (HSr.out.up hv1).rk rfl hL8).mono ?_; rintro e v2 ⟨rfl, hv2⟩
      have d2 := bstep hv1 hv2
      go_wp2_with fail
      refine (ints_sl _ _ _ _ _ _ l l _ ((RK.of_own T6.out).up d2) (HSr.out.up d2).rk rfl hL8).mono ?_; rintro e v3 ⟨rfl, hv3⟩
      have d3 := bstep d2 hv3
      go_wp2_with fail
      refine (refBack_any a L c l _ (HSr.out.up d3).rk hL8).mono ?_; rintro e v4 ⟨a4', c4', rfl, hown4, hv4⟩
      have HB4 := Lib.hid (RK.of_own hown4); clear hown4
      have d4 := bstep d3 hv4
      go_wp2_with fail
      refine (ints_sl _ _ _ _ _ _ l.reverse l.reverse _ ((RK.of_own T3.out).up d4) HB4.out rfl hL8).mono ?_; rintro e v5 ⟨rfl, hv5⟩
      have d5 := bstep d4 hv5
      go_wp2_with fail
      refine (back_any (some ⟨gx, 0, none⟩) L (L + 2) l2 _ (HXs.out.up d5).rk hL8 (by omega) (fun e => by cases e)).mono ?_; rintro e v6 ⟨a6', c6', rfl, hown6, hv6⟩
      have HB6 := Lib.hid (RK.of_own hown6); clear hown6
      have d6 := bstep d5 hv6
      have hy6 : RK .i64 v6 ay L l2 := (RK.of_own HY.out).up (bstep (bstep (bstep (bstep hv2 hv3) hv4) hv5) hv6)
      have HY6 := Lib.hid hy6; clear hy6
      go_wp2_with fail
      refine (refBack_any ay L cy l2 _ HY6.out hL8).mono ?_; rintro e v7 ⟨a7', c7', rfl, hown7, hv7⟩
      have HB7 := Lib.hid (RK.of_own hown7); clear hown7
      have d7 := bstep d6 hv7
      go_wp2_with fail
      refine (ints_sl _ _ _ _ _ _ l2.reverse l2.reverse _ (HB6.out.up hv7) HB7.out rfl hL8).mono ?_; rintro e v8 ⟨rfl, hv8⟩
      have d8 := bstep d7 hv8
      have dy8 := bstep (bstep (bstep (bstep (bstep (bstep hv2 hv3) hv4) hv5) hv6) hv7) hv8
      have HYo := Lib.hid (owns_up HY.out dy8)
      have U3 := Lib.hid (owns_up T3.out d8)
      have U4 := Lib.hid (owns_up T4.out d8)
      have U5 := Lib.hid (owns_up T5.out d8)
      have U6 := Lib.hid (owns_up T6.out d8)
      have U7 := Lib.hid (owns_up T7.out d8)
      have U8 := Lib.hid (owns_up T8.out d8)
      have AY3 := Lib.hid (ap_later T3.out HY.out (Nat.le_refl _))
      have AY4 := Lib.hid (ap_later T4.out HY.out (Nat.le_refl _))
      have AY5 := Lib.hid (ap_later T5.out HY.out (Nat.le_refl _))
      have AY6 := Lib.hid (ap_later T6.out HY.out (Nat.le_refl _))
      have AY7 := Lib.hid (ap_later T7.out HY.out (Nat.le_refl _))
      have AY8 := Lib.hid (ap_later T8.out HY.out (Nat.le_refl _))
      have HX8 := Lib.hid (HXs.out.up d8)
      have hb8W := bstep hb d8
      have s28 : w2.heap.size ≤ v8.heap.size := Nat.le_trans s2r d8.size
      clear T3 T4 T5 T6 T7 T8 hv1 hv2 hv3 hv4 hv5 hv6 hv7 hv8 d2 d3 d4 d5 d6 d7 d8 dy8 HB4 HB6 HB7 HY6 HXs
      go_wp2_with fail
      refine (ApI.apart_lit v8.heap.size w2.heap.size 6 6 [(a3, L, c3), (a4, L, c4), (a5, L, c5), (a6, L, c6), (a7, L, c7), (a8, L, c8)] v8 _ _ rfl rfl rfl s28 ?_ ?_ ?_ (by simp)).mono ?_
      · simp only [List.pairwise_cons, List.mem_cons, List.not_mem_nil, or_false]
        refine ⟨?_, ?_, ?_, ?_, ?_, ?_, List.Pairwise.nil⟩
        · rintro x (rfl | rfl | rfl | rfl | rfl)
          · exact A34.out
          · exact A35.out
          · exact A36.out
          · exact A37.out
          · exact A38.out
        · rintro x (rfl | rfl | rfl | rfl)
          · exact A45.out
          · exact A46.out
          · exact A47.out
          · exact A48.out
        · rintro x (rfl | rfl | rfl)
          · exact A56.out
          · exact A57.out
          · exact A58.out
        · rintro x (rfl | rfl)
          · exact A67.out
          · exact A68.out
        · rintro x rfl
          exact A78.out
        · intro x h
          cases h
      · intro x hx
        simp only [List.mem_cons, List.not_mem_nil, or_false] at hx
        rcases hx with rfl | rfl | rfl | rfl | rfl | rfl
        · exact ⟨_, U3.out⟩
        · exact ⟨_, U4.out⟩
        · exact ⟨_, U5.out⟩
        · exact ⟨_, U6.out⟩
        · exact ⟨_, U7.out⟩
        · exact ⟨_, U8.out⟩
      · intro x hx
        simp only [List.mem_cons, List.not_mem_nil, or_false] at hx
        rcases hx with rfl | rfl | rfl | rfl | rfl | rfl <;> (show L * 8 ≤ _; omega)
      · rintro e v9 ⟨rfl, hb9, hoth9⟩
        have hyr : RK .i64 v9 ay L l2 := by
          have h0 := RK.of_own HYo.out
          by_cases hz : L = 0
          · exact ⟨h0.1, h0.2.1, .inl hz⟩
          · obtain ⟨gy, rfl, hy1, hy2⟩ := own_form HYo.out (by omega)
            refine rk_of_heap h0 (hoth9 gy hy2 ?_) (Nat.le_of_not_lt fun hlt9 => ?_)
            · intro x hx e
              simp only [List.mem_cons, List.not_mem_nil, or_false] at hx
              rcases hx with rfl | rfl | rfl | rfl | rfl | rfl
              · exact AY3.out gy e rfl
              · exact AY4.out gy e rfl
              · exact AY5.out gy e rfl
              · exact AY6.out gy e rfl
              · exact AY7.out gy e rfl
              · exact AY8.out gy e rfl
            · have := hb9.size
              omega
        have hxr : RK .i64 v9 (some ⟨gx, 0, none⟩) L l2 := by
          refine rk_of_heap HX8.out.rk (hb9.block gx (by omega)) hb9.size
        have HXR := Lib.hid hxr
        have HYR := Lib.hid hyr
        clear hxr hyr hoth9
        go_wp2_with fail
        refine (ints_sl _ _ _ _ _ _ l2 l2 _ HXR.out HYR.out rfl hL8).mono ?_; rintro e v10 ⟨rfl, hb10⟩
        go_wp2
        go_ret
        refine ⟨rfl, ?_⟩
        exact bstep (hb8W.trans (hb9.mono (Nat.le_trans hgW (Nat.le_of_lt hgx2)))) hb10

theorem keeps03_row (a : Option Addr) (c : Nat) (l : List Int) (n : Int) (W : World) (R : Nat → Addr) (hS : Sent W R) (hR : Rd W a l.length 1 (l.map (Value.int .i64))) (hl : l.length ≤ c) (hc : c * 8 ≤ 140737488351232) (hn : a = none → c = 0) (hx : ∀ x ∈ l, -9223372036854775808 ≤ x ∧ x ≤ 9223372036854775807) :
    Calls Tryd.prog 7 #[.slice a l.length c, .int .i64 n] W (TrueBelow W) := by
  have hSl : Sl .i64 W a l.length c l := ⟨⟨rfl, hR⟩, hl, by unfold maxLen; omega, hn⟩
  by_cases h1 : 100 < l.length
  · exact keeps03_big a c l n W R hS.glob h1 (by omega)
  · exact keeps03_ok a l.length c l n W R hS.glob hSl (by omega)
end Go.Proofs.YtgojdnffmkigaaaDoor
