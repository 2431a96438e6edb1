/- The contracts of count.Words and count.rings. -/
import Derived.Test.YtmdicmcmalmbaaaDoorCountC
namespace Go.Proofs.YtmdicmcmalmbaaaDoor
open Go.RowKit
set_option linter.unusedVariables false
set_option maxRecDepth 100000

theorem IsRule.nodes {k r n : Nat} {l : List Int} (h : IsRule k r l) (hn : n = l.length) : n = k ^ (2 * r) * k ∧ 0 < k ^ (2 * r) ∧ n ≤ 16384 := by
  have h1 := h.len
  refine ⟨by rw [hn, h1, Nat.pow_succ], Nat.pow_pos h.k1, ?_⟩
  rw [hn, h1]
  exact rpow_le h.k4 (by have := h.r3; omega)

set_option maxHeartbeats 4000000 in
theorem countWords_ok (k r : Nat) (a aw : Option Addr) (n c nw cw : Nat) (l wl : List Int) (W : World) (R : Nat → Addr) (hG : Glob W R) (hR : RK .i64 W a n l) (hW : RK .i64 W aw nw wl) (h : IsRule k r l) (hn : n ≤ 256) (hnc : n ≤ c) (hcm : c ≤ maxLen) (hnw : nw ≤ 256) (hs : ∀ x ∈ wl, 0 ≤ x ∧ x < (k : Int)) :
    Calls Tryd.prog 40 #[ruleV k r a n c, .slice aw nw cw] W fun e w' => ∃ a' n' c', e = .returned (.tuple #[.slice a' n' c', .nilIface]) ∧ OwN w' W.heap.size (a', n', c') (limbs (wordsC k (k ^ (2 * r)) l wl)) ∧ Below W.heap.size W w' := by
  have hnod := h.nodes hR.len
  have k1 := h.k1
  have k4 := h.k4
  have HND := Lib.hid hnod; clear hnod
  have H := Lib.hid h; clear h
  have HS := Lib.hid hs; clear hs
  have HG := Lib.hid hG; clear hG
  have HR := Lib.hid hR; clear hR
  have HW := Lib.hid hW; clear hW
  obtain ⟨Wb, hWb⟩ : ∃ Wb, W.alloc (.cells #[.int .i64 k, .int .i64 r, .slice a n c] 66) = Wb := ⟨_, rfl⟩
  have HX : Hid (Wb.cell? ⟨W.heap.size, 0, none⟩ = some (.int .i64 k) ∧ Wb.cell? ⟨W.heap.size, 1, none⟩ = some (.int .i64 r) ∧ Wb.cell? ⟨W.heap.size, 2, none⟩ = some (.slice a n c)) := by rw [← hWb]; exact ⟨by simp, by simp, by simp⟩
  have HSZ : Hid (W.heap.size < Wb.heap.size) := by show _ < _; rw [← hWb]; simp
  have HBX : Hid (Below W.heap.size W Wb) := by rw [← hWb]; exact balloc (bnil W) _
  have HWB := Lib.hid hWb; clear hWb
  go_enter Tryd.func40, Tryd.ntmps40
  go_wp2_with fail
  rw [HWB.out]
  refine (csmall_ok k r a n c l _ (HR.out.up HBX.out) H.out hn).mono ?_; rintro e w2 ⟨rfl, hb2⟩
  have x0 := (hb2.cell (p := ⟨W.heap.size, 0, none⟩) HSZ.out).trans HX.out.1
  have hb2W := HBX.out.trans (hb2.mono HBX.out.size)
  go_wp2_with fail
  refine (symbols_any (k : Int) aw nw cw 256 wl _ R (HG.out.up hb2W) (HW.out.up hb2W) (by unfold maxLen; omega) (by decide)).mono ?_; rintro e w3 hp3
  rcases hp3 with ⟨_, rfl, hb3⟩ | ⟨hno, _⟩
  · have hb23 := bstep hb2 hb3
    have y0 := (hb23.cell (p := ⟨W.heap.size, 0, none⟩) HSZ.out).trans HX.out.1
    have y1 := (hb23.cell (p := ⟨W.heap.size, 1, none⟩) HSZ.out).trans HX.out.2.1
    have y2 := (hb23.cell (p := ⟨W.heap.size, 2, none⟩) HSZ.out).trans HX.out.2.2
    have hb3W := bstep hb2W hb3
    clear x0
    go_wp2_with fail
    refine (words_any k r a aw n c nw cw (k ^ (2 * r)) l wl _ k1 k4 HND.out.1 HND.out.2.1 (by omega) hnc hcm hnw (HR.out.up hb3W) (HW.out.up hb3W)).mono ?_; rintro e w4 ⟨a4, n4, c4, rfl, ho4, hb4⟩
    have HO := Lib.hid (OwN.base (b' := W.heap.size) ho4 hb3W.size)
    clear ho4
    go_wp2
    go_ret2
    exact ⟨_, _, _, rfl, HO.out, bstep hb3W hb4⟩
  · exact absurd ⟨hnw, HS.out⟩ hno

theorem countWords_err (k r : Int) (a aw : Option Addr) (n c nw cw : Nat) (l wl : List Int) (W : World) (R : Nat → Addr) (hG : Glob W R) (hR : RK .i64 W a n l) (hW : RK .i64 W aw nw wl) (hm : n ≤ maxLen) (hmw : nw ≤ maxLen) (h : ∀ kn rn : Nat, k = kn → r = rn → IsRule kn rn l → n ≤ 256 → ¬ (nw ≤ 256 ∧ ∀ x ∈ wl, 0 ≤ x ∧ x < k)) :
    Calls Tryd.prog 40 #[ruleV k r a n c, .slice aw nw cw] W (ErrTwo W) := by
  have HH := Lib.hid h; clear h
  have HG := Lib.hid hG; clear hG
  have HR := Lib.hid hR; clear hR
  have HW := Lib.hid hW; clear hW
  obtain ⟨Wb, hWb⟩ : ∃ Wb, W.alloc (.cells #[.int .i64 k, .int .i64 r, .slice a n c] 66) = Wb := ⟨_, rfl⟩
  have HX : Hid (Wb.cell? ⟨W.heap.size, 0, none⟩ = some (.int .i64 k) ∧ Wb.cell? ⟨W.heap.size, 1, none⟩ = some (.int .i64 r) ∧ Wb.cell? ⟨W.heap.size, 2, none⟩ = some (.slice a n c)) := by rw [← hWb]; exact ⟨by simp, by simp, by simp⟩
  have HSZ : Hid (W.heap.size < Wb.heap.size) := by show _ < _; rw [← hWb]; simp
  have HBX : Hid (Below W.heap.size W Wb) := by rw [← hWb]; exact balloc (bnil W) _
  have HWB := Lib.hid hWb; clear hWb
  by_cases hok : ∃ kn rn : Nat, k = kn ∧ r = rn ∧ IsRule kn rn l ∧ n ≤ 256
  · obtain ⟨kn, rn, rfl, rfl, hI, hn⟩ := hok
    have hno := HH.out kn rn rfl rfl hI hn
    have HI := Lib.hid hI
    have HNO := Lib.hid hno
    clear hI hno
    go_enter Tryd.func40, Tryd.ntmps40
    go_wp2_with fail
    rw [HWB.out]
    refine (csmall_ok kn rn a n c l _ (HR.out.up HBX.out) HI.out hn).mono ?_; rintro e w2 ⟨rfl, hb2⟩
    have x0 := (hb2.cell (p := ⟨W.heap.size, 0, none⟩) HSZ.out).trans HX.out.1
    have hb2W := HBX.out.trans (hb2.mono HBX.out.size)
    go_wp2_with fail
    refine (symbols_any (kn : Int) aw nw cw 256 wl _ R (HG.out.up hb2W) (HW.out.up hb2W) hmw (by decide)).mono ?_; rintro e w3 hp3
    rcases hp3 with ⟨hyes, _⟩ | ⟨_, g3, rfl, hb3⟩
    · exact absurd hyes HNO.out
    · go_wp2
      go_ret2
      exact ⟨_, rfl, bstep hb2W hb3⟩
  · have hbad : ∀ kn rn : Nat, k = kn → r = rn → IsRule kn rn l → 256 < n := fun kn rn h1 h2 h3 => by
      by_cases h4 : n ≤ 256
      · exact absurd ⟨kn, rn, h1, h2, h3, h4⟩ hok
      · omega
    have HBAD := Lib.hid hbad
    clear hbad hok
    go_enter Tryd.func40, Tryd.ntmps40
    go_wp2_with fail
    rw [HWB.out]
    refine (csmall_err k r a n c l _ R (HG.out.up HBX.out) (HR.out.up HBX.out) hm HBAD.out).mono ?_; rintro e w2 ⟨g2, rfl, hb2⟩
    go_wp2
    go_ret2
    exact ⟨_, rfl, HBX.out.trans (hb2.mono HBX.out.size)⟩

/-! ### rings -/
def unitE (i : Nat) : Nat → Nat := fun u => if u = i then 1 else 0
def ringsC (k N T n : Nat) (p : Nat → Nat → Bool) (i : Nat) : Nat := sumTo i fun u => wv k N T n p (unitE u) n u

set_option maxHeartbeats 8000000 in
theorem rings_any (k r : Nat) (a : Option Addr) (T c n N : Nat) (F : Nat) (cap : Array Value) (p : Nat → Nat → Bool) (W : World)
    (k1 : 1 ≤ k) (k4 : k ≤ 4) (hT : T = N * k) (hN : 0 < N) (hT4 : T ≤ 16384) (hTc : T ≤ c) (hcm : c ≤ maxLen) (hn : n ≤ 256)
    (hF : ∀ args w, (callFunc F args).run Tryd.prog w = .ok (.enter F args) w) (hP : Pred2 F cap p n T W) :
    Calls Tryd.prog 85 #[ruleV k r a T c, .int .i64 n, .func (.func F) #[] cap] W fun e w' => ∃ a' n' c', e = .returned (.slice a' n' c') ∧ OwN w' W.heap.size (a', n', c') (limbs (ringsC k N T n p N)) ∧ Below W.heap.size W w' := by
  have hNT : N ≤ T := by rw [hT]; exact Nat.le_mul_of_pos_right _ k1
  have hcm' : c ≤ 9223372036854775807 := hcm
  have hdiv : (T : Int) / (k : Int) = (N : Int) := by
    rw [hT, Int.natCast_mul]
    exact Int.mul_ediv_cancel _ (by omega)
  have HT := Lib.hid hT; clear hT
  have HP := Lib.hid hP; clear hP
  have HF := Lib.hid hF; clear hF
  have K0 : (0 : Int) < (k : Int) := by omega
  have T0 : (0 : Int) ≤ (T : Int) := by omega
  obtain ⟨Wb, hWb⟩ : ∃ Wb, W.alloc (.cells #[.int .i64 k, .int .i64 r, .slice a T c] 66) = Wb := ⟨_, rfl⟩
  have HX : Hid (Wb.cell? ⟨W.heap.size, 0, none⟩ = some (.int .i64 k) ∧ Wb.cell? ⟨W.heap.size, 1, none⟩ = some (.int .i64 r) ∧ Wb.cell? ⟨W.heap.size, 2, none⟩ = some (.slice a T c)) := by rw [← hWb]; exact ⟨by simp, by simp, by simp⟩
  have HSZ : Hid (W.heap.size < Wb.heap.size) := by show _ < _; rw [← hWb]; simp
  have HBX : Hid (Below W.heap.size W Wb) := by rw [← hWb]; exact balloc (bnil W) _
  have HWB := Lib.hid hWb; clear hWb
  go_enter Tryd.func85, Tryd.ntmps85
  go_wp2_with fail
  rw [HWB.out]
  go_loopw [7, 18] (fun sx ix wr => ∃ (i : Nat) (a1 : Option Addr) (n1 c1 : Nat), i ≤ N ∧ ix = .int .i64 i ∧ sx = .slice a1 n1 c1 ∧ OwN wr W.heap.size (a1, n1, c1) (limbs (ringsC k N T n p i)) ∧ Below Wb.heap.size Wb wr) (fun _ ix _ => N - (intOf ix).toNat)
  case atStart => exact ⟨0, none, 0, 0, by omega, rfl, rfl, OwN.nil _ _, bnil _⟩
  case round =>
    obtain ⟨i, a1, n1, c1, hi, rfl, rfl, ho, hb⟩ := hrel
    have HO := Lib.hid ho
    have HB := Lib.hid hb
    clear ho hb
    have hfl : ∀ u, u < N → wv k N T n p (unitE u) n u < B32 ^ (n + 1) := fun u hu => wv_lt hN hT4 (fun v _ => by unfold unitE; split <;> decide) n u hu
    have hsm := HO.out.ns.small (sum_len (by omega) hi hfl)
    have hflI := fun hin : i < N => limbs_len_le (hfl i hin)
    have HFL := Lib.hid hflI
    simp only at hsm
    clear hfl hflI
    by_cases hin : i < N
    · have hszr : W.heap.size < wr.heap.size := Nat.lt_of_lt_of_le HSZ.out HB.out.size
      have hWr := HBX.out.trans (HB.out.mono HBX.out.size)
      have HWr := Lib.hid hWr
      have HSR := Lib.hid hszr
      clear hWr hszr
      have i0 : (0 : Int) ≤ (i : Int) := by omega
      have i1 : (i : Int) < (N : Int) := by omega
      go_upto_region 8 with (first
        | (at_make; refine mk_full rfl _ _ _ rfl wr.heap.size et_nats .i64 .i64 _ _ N rfl rfl rfl rfl (by omega) (by unfold maxLen; omega) (Nat.le_refl _) ?_; intro w2 hown2 hb2 hsz2; rw [made_nats] at hown2; have H2 := Lib.hid (OwNs.made hown2); have HB2 := Lib.hid hb2; have hcell := hown2.cellAt i (by omega); rw [range_at _ hin] at hcell; have f2 := hown2.frozenAt i; have HSZ2 := Lib.hid hsz2; clear hown2 hb2 hsz2)
        | (go_at_call 48; refine (from_any 1 _ (by omega)).mono ?_; rintro e w4 ⟨n4, rfl, ho4, hv4, hb4⟩; have u4 := (hb4.cell (p := ⟨wr.heap.size, i, none⟩) HSZ2.out).trans hcell; have f4 := (hb4.frozen (p := ⟨wr.heap.size, i, none⟩) HSZ2.out).trans f2; have H4 := Lib.hid ho4; have HB4 := Lib.hid hb4; clear ho4 hv4 hb4))
      have hput := put_add (G := fun u => limbs (unitE i u)) H2.out hin HB4.out (limbs_u32 1) H4.out (Nat.le_of_lt HSZ2.out) fun u _ => by
        by_cases e : u = i
        · subst e; rw [upd_self]; unfold unitE; rw [if_pos rfl]
        · rw [upd_ne _ _ e]; unfold unitE; rw [if_neg e]; rfl
      have hb5 := (HB2.out.trans (HB4.out.mono HB2.out.size)).setCell (p := ⟨wr.heap.size, i, none⟩) (Nat.le_refl _) (.slice (some ⟨w2.heap.size, 0, none⟩) n4 2)
      obtain ⟨w5, hw5⟩ : ∃ w5, w4.setCell ⟨wr.heap.size, i, none⟩ (.slice (some ⟨w2.heap.size, 0, none⟩) n4 2) = w5 := ⟨_, rfl⟩
      rw [hw5] at hput hb5
      simp only [hw5]
      have HPUT := Lib.hid hput.nsR
      have HB5 := Lib.hid hb5
      have HW5 := Lib.hid (HWr.out.trans (hb5.mono HWr.out.size))
      have hbW5 := HB.out.trans (hb5.mono HB.out.size)
      have x0 := (hbW5.cell (p := ⟨W.heap.size, 0, none⟩) HSZ.out).trans HX.out.1
      have x1 := (hbW5.cell (p := ⟨W.heap.size, 1, none⟩) HSZ.out).trans HX.out.2.1
      have x2 := (hbW5.cell (p := ⟨W.heap.size, 2, none⟩) HSZ.out).trans HX.out.2.2
      have hP5 : Pred2 F cap p n T w5 := fun V x y hV hx hy => HP.out V x y (HW5.out.trans (hV.mono HW5.out.size)) hx hy
      have HP5 := Lib.hid hP5
      have HBW5 := Lib.hid hbW5
      clear hput hb5 hw5 u4 f4 f2 hcell H2 H4 HB2 HB4 HSZ2 hbW5 hP5
      go_wp2_with fail
      refine (ways_any k r a T c n _ N N (unitE i) F cap p _ k1 k4 HT.out hN hT4 hTc hcm hn HPUT.out (fun v _ => by unfold unitE; split <;> decide) HF.out HP5.out).mono ?_; rintro e w6 ⟨a6, c6, rfl, hv6, hb6⟩
      obtain ⟨b6, o6, rfl, hl6, hc6⟩ := hv6.addr hN
      obtain ⟨a7, n7, c7, y0, hy⟩ := hc6 i hin
      have n7L := hy.small (HFL.out hin)
      have HY := Lib.hid hy
      have HO6 := Lib.hid (HO.out.up (bstep HB5.out hb6))
      have HB6 := Lib.hid (HBW5.out.trans (hb6.mono HBW5.out.size))
      have HW6 := Lib.hid (HW5.out.trans (hb6.mono HW5.out.size))
      clear hv6 hc6 hy hb6 HO x0 x1 x2
      go_wp2_with fail
      refine (add_any a1 a7 n1 n7 c1 c7 _ _ _ HO6.out.ns.nr HY.out.nr (by omega) (by omega)).mono ?_; rintro e w8 ⟨a8, n8, c8, rfl, ho8, hv8, hb8⟩
      rw [val_limbs, val_limbs] at ho8
      have HO8 : Hid (OwN w8 W.heap.size (a8, n8, c8) (limbs (ringsC k N T n p (i + 1)))) := OwN.base ⟨ho8, limbs_u32 _⟩ HW6.out.size
      have HB8 := Lib.hid (HB6.out.trans (hb8.mono HB6.out.size))
      clear ho8 hv8 hb8
      go_wp2
      go_roundw
      case rel => exact ⟨i + 1, _, _, _, by omega, by go_num, rfl, HO8.out, HB8.out⟩
      case measure => simp [intOf]; omega
    · obtain rfl : N = i := by omega
      go_wp2
      go_ret
      exact ⟨_, _, _, rfl, HO.out, HBX.out.trans (HB.out.mono HBX.out.size)⟩
end Go.Proofs.YtmdicmcmalmbaaaDoor
