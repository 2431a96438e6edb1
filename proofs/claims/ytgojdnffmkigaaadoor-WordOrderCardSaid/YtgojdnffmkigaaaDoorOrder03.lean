/- The walk of edenlaw03.WordOrder. -/
import Derived.Test.YtgojdnffmkigaaaDoorAwake03
import Derived.Test.YtgojdnffmkigaaaDoorWordS
import Derived.Test.YtgojdnffmkigaaaDoorWordK
import Derived.WalkKit
import Derived.Lib.Hide
namespace Go.Proofs.YtgojdnffmkigaaaDoor
open Go.RowKit
set_option linter.unusedVariables false
set_option maxRecDepth 100000

def orderPost (W : World) := TrueBelow W

theorem order_err1 (k : Int) (a1 a2 : Option Addr) (n1 n2 c1 c2 : Nat) (l v : List Int) (W : World) (R : Nat → Addr) (hG : Glob W R) (h1 : RK .i64 W a1 n1 l) (h2 : RK .i64 W a2 n2 v) (hm1 : n1 ≤ maxLen) (hm2 : n2 ≤ maxLen) (x : Int × Int) (he : chkErr k l = some x) :
    Calls Tryd.prog 6 #[.int .i64 k, .slice a1 n1 c1, .slice a2 n2 c2] W (TrueBelow W) := by
  have HG := Lib.hid hG; clear hG
  have H1 := Lib.hid h1; clear h1
  have H2 := Lib.hid h2; clear h2
  have HE := Lib.hid he; clear he
  go_enter Tryd.func6, Tryd.ntmps6
  go_wp2_with fail
  refine (awake03 _ R HG.out).mono ?_; rintro e w1 ⟨rfl, hb1⟩
  go_wp2_with fail
  refine (check_err k a1 n1 c1 l _ R (HG.out.up hb1) (H1.out.up hb1) hm1 x HE.out).mono ?_; rintro e w2 ⟨g, rfl, he2, hb2⟩
  clear he2
  go_wp2
  go_ret
  exact ⟨rfl, bstep hb1 hb2⟩
theorem order_err2 (k : Int) (a1 a2 : Option Addr) (n1 n2 c1 c2 : Nat) (l v : List Int) (W : World) (R : Nat → Addr) (hG : Glob W R) (h1 : RK .i64 W a1 n1 l) (h2 : RK .i64 W a2 n2 v) (hm1 : n1 ≤ maxLen) (hm2 : n2 ≤ maxLen) (x : Int × Int) (he1 : chkErr k l = none) (he : chkErr k v = some x) :
    Calls Tryd.prog 6 #[.int .i64 k, .slice a1 n1 c1, .slice a2 n2 c2] W (TrueBelow W) := by
  have HG := Lib.hid hG; clear hG
  have H1 := Lib.hid h1; clear h1
  have H2 := Lib.hid h2; clear h2
  have HE1 := Lib.hid he1; clear he1
  have HE := Lib.hid he; clear he
  go_enter Tryd.func6, Tryd.ntmps6
  go_wp2_with fail
  refine (awake03 _ R HG.out).mono ?_; rintro e w1 ⟨rfl, hb1⟩
  go_wp2_with fail
  refine (check_ok k a1 n1 c1 l _ R (HG.out.up hb1) (H1.out.up hb1) hm1 HE1.out).mono ?_; rintro e w2 ⟨rfl, hb2⟩
  have hb2W := bstep hb1 hb2
  go_wp2_with fail
  refine (check_err k a2 n2 c2 v _ R (HG.out.up hb2W) (H2.out.up hb2W) hm2 x HE.out).mono ?_; rintro e w3 ⟨g, rfl, he3, hb3⟩
  clear he3
  go_wp2
  go_ret
  exact ⟨rfl, bstep hb2W hb3⟩
theorem order_big (k : Int) (a1 a2 : Option Addr) (n1 n2 c1 c2 : Nat) (l v : List Int) (W : World) (R : Nat → Addr) (hG : Glob W R) (h1 : RK .i64 W a1 n1 l) (h2 : RK .i64 W a2 n2 v) (hm1 : n1 ≤ maxLen) (hm2 : n2 ≤ maxLen) (he1 : chkErr k l = none) (he2 : chkErr k v = none) (hb : 200 < n1 ∨ 200 < n2) :
    Calls Tryd.prog 6 #[.int .i64 k, .slice a1 n1 c1, .slice a2 n2 c2] W (TrueBelow W) := by
  have HG := Lib.hid hG; clear hG
  have H1 := Lib.hid h1; clear h1
  have H2 := Lib.hid h2; clear h2
  have HE1 := Lib.hid he1; clear he1
  have HE2 := Lib.hid he2; clear he2
  go_enter Tryd.func6, Tryd.ntmps6
  go_wp2_with fail
  refine (awake03 _ R HG.out).mono ?_; rintro e w1 ⟨rfl, hb1⟩
  go_wp2_with fail
  refine (check_ok k a1 n1 c1 l _ R (HG.out.up hb1) (H1.out.up hb1) hm1 HE1.out).mono ?_; rintro e w2 ⟨rfl, hb2⟩
  have hb2W := bstep hb1 hb2
  go_wp2_with fail
  refine (check_ok k a2 n2 c2 v _ R (HG.out.up hb2W) (H2.out.up hb2W) hm2 HE2.out).mono ?_; rintro e w3 ⟨rfl, hb3⟩
  have hb3W := bstep hb2W hb3
  rcases hb with hb | hb
  · go_wp2
    go_ret
    exact ⟨rfl, hb3W⟩
  · by_cases hb9 : 200 < n1
    · go_wp2
      go_ret
      exact ⟨rfl, hb3W⟩
    · go_wp2
      go_ret
      exact ⟨rfl, hb3W⟩

/-- what the word behind a word is -/
structure Behind (k : Nat) (l x : List Int) : Prop where
  chk : chkErr (k : Int) x = none
  len : x.length = l.length ∨ (x.length = l.length + 1 ∧ horn k x = 0 ∧ horn k l + 1 = k ^ l.length)
  num : x.length = l.length → horn k x = horn k l + 1
theorem behind_up {k : Nat} {l : List Int} {i : Nat} (hc : chkErr (k : Int) l = none) (h : LastUp k l i) : Behind k l (bump l i) := by
  obtain ⟨k1, k4, hl, hm⟩ := chk_none hc
  have e := bump_len h.1
  exact ⟨chk_none_of k1 k4 (by omega) (bump_mem hm h), .inl e, fun _ => horn_bump (by omega) hm h⟩
theorem behind_all {k : Nat} {l : List Int} (hc : chkErr (k : Int) l = none) (hl9 : l.length < 4096) (h : NoUp k l) : Behind k l (List.replicate (l.length + 1) 0) := by
  obtain ⟨k1, k4, hl, hm⟩ := chk_none hc
  refine ⟨chk_none_of k1 k4 (by simp; omega) fun x hx => ?_, .inr ⟨by simp, horn_zeros _ _, horn_noUp (by omega) hm h⟩, fun h => by simp at h⟩
  obtain ⟨_, rfl⟩ := List.mem_replicate.1 hx
  omega
theorem Behind.cmp {k : Nat} {l x : List Int} (h : Behind k l x) (hc : chkErr (k : Int) l = none) : cmpW l x = -1 := by
  obtain ⟨k1, k4, hl, hm⟩ := chk_none hc
  obtain ⟨_, _, _, hx⟩ := chk_none h.chk
  rw [cmpW_horn hm hx]
  rcases h.len with e | ⟨e, _, _⟩
  · rw [if_neg (by omega), if_neg (by omega), h.num e]
    exact cmpN_lt (by omega)
  · rw [if_pos (by omega)]
theorem Behind.next {k : Nat} {l x v : List Int} (h : Behind k l x) (hc : chkErr (k : Int) l = none) (hv : chkErr (k : Int) v = none) (hlt : cmpW l v = -1) : cmpW x v ≤ 0 := by
  obtain ⟨k1, k4, hl, hm⟩ := chk_none hc
  obtain ⟨_, _, _, hx⟩ := chk_none h.chk
  obtain ⟨_, _, _, hvm⟩ := chk_none hv
  rw [cmpW_horn hm hvm] at hlt
  rw [cmpW_horn hx hvm]
  by_cases h1 : l.length < v.length
  · by_cases h2 : x.length < v.length
    · rw [if_pos h2]; omega
    · rw [if_neg h2]
      rcases h.len with e | ⟨e, e2, _⟩
      · omega
      · rw [if_neg (by omega), e2]
        exact cmpN_le (Nat.zero_le _)
  · rw [if_neg h1] at hlt
    by_cases h2 : v.length < l.length
    · rw [if_pos h2] at hlt; omega
    · rw [if_neg h2] at hlt
      have h3 : horn k l < horn k v := by
        by_cases h3 : horn k l < horn k v
        · exact h3
        · have := cmpN_ge (x := horn k l) (y := horn k v) (by omega)
          omega
      rcases h.len with e | ⟨e, _, e3⟩
      · rw [if_neg (by omega), if_neg (by omega), h.num e]
        exact cmpN_le (by omega)
      · have := horn_lt hvm
        rw [show v.length = l.length by omega] at this
        omega
theorem next_behind (k : Nat) (a : Option Addr) (n c : Nat) (l : List Int) (W : World) (R : Nat → Addr) (hG : Glob W R) (hR : RK .i64 W a n l) (hn : n ≤ 4000) (hnc : n ≤ c) (hcap : a = none → c = 0) (he : chkErr (k : Int) l = none) :
    Calls Tryd.prog 23 #[.int .i64 k, .slice a n c] W fun e w' => ∃ a' n' c' x, e = .returned (.tuple #[.slice a' n' c', .nilIface]) ∧ RK .i64 w' a' n' x ∧ Behind k l x ∧ Below W.heap.size W w' := by
  have hl := hR.len
  rcases lastUp_or (k : Int) l with ⟨i, hi⟩ | hi
  · exact (next_up (k : Int) a n c l W R hG hR (by omega) hnc hcap he i hi).mono fun e w' ⟨a', c', h1, h2, h3⟩ => ⟨a', n, c', _, h1, RK.of_own h2, behind_up he hi, h3⟩
  · refine (next_all (k : Int) a n c l W R hG hR (by omega) hnc hcap he hi).mono fun e w' ⟨h, _⟩ => ?_
    obtain ⟨a', c', h1, h2, h3⟩ := h (by omega)
    have := behind_all he (by omega) hi
    rw [← hl] at this
    exact ⟨a', n + 1, c', _, h1, RK.of_own h2, this, h3⟩

theorem neg_eq (a b : Int) (h : a = -b) : (a != -b) = false := by rw [h]; simp

set_option maxHeartbeats 8000000 in
theorem order_ok (k : Nat) (a1 a2 : Option Addr) (n1 n2 c1 c2 : Nat) (l v : List Int) (W : World) (R : Nat → Addr) (hG : Glob W R) (h1 : Sl .i64 W a1 n1 c1 l) (h2 : Sl .i64 W a2 n2 c2 v) (he1 : chkErr (k : Int) l = none) (he2 : chkErr (k : Int) v = none) (hs1 : n1 ≤ 200) (hs2 : n2 ≤ 200) :
    Calls Tryd.prog 6 #[.int .i64 k, .slice a1 n1 c1, .slice a2 n2 c2] W (TrueBelow W) := by
  obtain ⟨k1, k4, hl9, hm1⟩ := chk_none he1
  obtain ⟨_, _, _, hm2⟩ := chk_none he2
  have k1' : 1 ≤ k := by omega
  have k4' : k ≤ 4 := by omega
  have hkm : max (k : Int) 0 = (k : Int) := by omega
  have hk4 : (k : Int) % 4294967296 = (k : Int) := Int.emod_eq_of_lt (by omega) (by omega)
  have HM1 := Lib.hid hm1; clear hm1
  have HM2 := Lib.hid hm2; clear hm2
  have HL1 := Lib.hid h1.len
  have HL2 := Lib.hid h2.len
  have HG := Lib.hid hG; clear hG
  have H1 := Lib.hid h1; clear h1
  have H2 := Lib.hid h2; clear h2
  have HE1 := Lib.hid he1; clear he1
  have HE2 := Lib.hid he2; clear he2
  clear hl9
  go_enter Tryd.func6, Tryd.ntmps6
  go_wp2_with fail
  refine (awake03 _ R HG.out).mono ?_; rintro e w1 ⟨rfl, hb1⟩
  go_wp2_with fail
  refine (check_ok (k : Int) a1 n1 c1 l _ R (HG.out.up hb1) (H1.out.up hb1).rk (by unfold maxLen; omega) HE1.out).mono ?_; rintro e w2 ⟨rfl, hb2⟩
  have hb2W := bstep hb1 hb2
  go_wp2_with fail
  refine (check_ok (k : Int) a2 n2 c2 v _ R (HG.out.up hb2W) (H2.out.up hb2W).rk (by unfold maxLen; omega) HE2.out).mono ?_; rintro e w3 ⟨rfl, hb3⟩
  have hb3W := bstep hb2W hb3
  have HG3 := Lib.hid (HG.out.up hb3W)
  have H13 := Lib.hid (H1.out.up hb3W)
  have H23 := Lib.hid (H2.out.up hb3W)
  clear hb1 hb2 hb2W hb3 HG H1 H2
  go_wp2_with fail
  refine (next_behind k a1 n1 c1 l _ R HG3.out H13.out.rk (by omega) H13.out.le H13.out.cap HE1.out).mono ?_; rintro e w4 ⟨ax, nx, cx, x, rfl, hrx, hbx, hb4⟩
  have HLX := Lib.hid hrx.len
  have HRX := Lib.hid hrx
  have HBX := Lib.hid hbx
  have hnx : nx = n1 ∨ nx = n1 + 1 := by
    have := HL1.out
    have := HLX.out
    rcases HBX.out.len with h | ⟨h, _⟩
    · left; omega
    · right; omega
  have hb4W := bstep hb3W hb4
  have HG4 := Lib.hid (HG3.out.up hb4)
  have H14 := Lib.hid (H13.out.up hb4)
  have H24 := Lib.hid (H23.out.up hb4)
  clear hrx hbx hb4 HG3 H13 H23
  go_wp2_with fail
  refine (index_ok (k : Int) a1 n1 c1 l _ R HG4.out H14.out.rk HE1.out (by omega)).mono ?_; rintro e w5 ⟨ai, ni, ci, rfl, hvi, hb5⟩
  rw [Int.toNat_natCast] at hvi
  have HVI := Lib.hid hvi
  have HG5 := Lib.hid (HG4.out.up hb5)
  have HRX5 := Lib.hid (HRX.out.up hb5)
  have hb5W := bstep hb4W hb5
  have H15 := Lib.hid (H14.out.up hb5)
  have H25 := Lib.hid (H24.out.up hb5)
  clear hvi hb5 HG4 HRX H14 H24
  go_wp2_with fail
  refine (index_ok (k : Int) ax nx cx x _ R HG5.out HRX5.out HBX.out.chk (by omega)).mono ?_; rintro e w6 ⟨aj, nj, cj, rfl, hvj, hb6⟩
  rw [Int.toNat_natCast] at hvj
  have HVJ := Lib.hid hvj
  have HVI6 := Lib.hid (HVI.out.up hb6)
  have HG6 := Lib.hid (HG5.out.up hb6)
  have HRX6 := Lib.hid (HRX5.out.up hb6)
  have hb6W := bstep hb5W hb6
  have H16 := Lib.hid (H15.out.up hb6)
  have H26 := Lib.hid (H25.out.up hb6)
  clear hvj hb6 HG5 HRX5 H15 H25 HVI
  go_wp2_with fail
  refine (index_ok (k : Int) a2 n2 c2 v _ R HG6.out H26.out.rk HE2.out (by omega)).mono ?_; rintro e w7 ⟨ah, nh, ch, rfl, hvh, hb7⟩
  rw [Int.toNat_natCast] at hvh
  have HVH := Lib.hid hvh
  have HVI7 := Lib.hid (HVI6.out.up hb7)
  have HVJ7 := Lib.hid (HVJ.out.up hb7)
  have HG7 := Lib.hid (HG6.out.up hb7)
  have HRX7 := Lib.hid (HRX6.out.up hb7)
  have hb7W := bstep hb6W hb7
  have H17 := Lib.hid (H16.out.up hb7)
  have H27 := Lib.hid (H26.out.up hb7)
  clear hvh hb7 HG6 HRX6 H16 H26 HVI6 HVJ
  go_wp2_with fail
  refine (check_ok (k : Int) ax nx cx x _ R HG7.out HRX7.out (by unfold maxLen; omega) HBX.out.chk).mono ?_; rintro e w8 ⟨rfl, hb8⟩
  go_wp2_with fail
  refine (wordCmp_any a1 ax n1 nx c1 cx l x _ (H17.out.up hb8).rk (HRX7.out.up hb8) (by unfold maxLen; omega) (by unfold maxLen; omega)).mono ?_; rintro e w9 ⟨rfl, hb9⟩
  rw [HBX.out.cmp HE1.out]
  have hb9' := bstep hb8 hb9
  have HVI9 := Lib.hid (HVI7.out.up hb9')
  have HVJ9 := Lib.hid (HVJ7.out.up hb9')
  have HVH9 := Lib.hid (HVH.out.up hb9')
  have HRX9 := Lib.hid (HRX7.out.up hb9')
  have H19 := Lib.hid (H17.out.up hb9')
  have H29 := Lib.hid (H27.out.up hb9')
  have hb9W := bstep hb7W hb9'
  clear hb8 hb9 hb9' HVI7 HVJ7 HVH HRX7 H17 H27 HG7
  have hni : ni ≤ 300 := by
    rw [HVI9.out.len]
    have h1 := horn_len (k := k) (l := l) (j := l.length) k4' HM1.out
    rw [List.take_of_length_le (Nat.le_refl _)] at h1
    have := HL1.out
    omega
  by_cases hlen : nx = n1
  case' pos =>
    obtain rfl : n1 = nx := hlen.symm
    have hnum := HBX.out.num (by rw [← HLX.out, HL1.out])
    have HN := Lib.hid hnum; clear hnum
    clear hnx
    go_wp2_with fail
    refine (from_any 1 _ (by omega)).mono ?_; rintro e w10 ⟨n10, rfl, ho10, hv10, hb10⟩
    have hn10 : n10 ≤ 2 := hv10.le
    have HV10 := Lib.hid hv10
    clear ho10 hv10
    go_wp2_with fail
    refine (add_any ai _ ni n10 ci 2 _ _ _ (HVI9.out.up hb10).nr HV10.out.nr (by omega) (by omega)).mono ?_; rintro e w11 ⟨a11, n11, c11, rfl, ho11, hv11, hb11⟩
    rw [val_limbs, val_limbs, ← HN.out] at hv11
    have HV11 := Lib.hid hv11
    have hb11' := bstep hb10 hb11
    clear ho11 hv11 hb10 hb11 HV10
    go_wp2_with fail
    refine (natCmp_any aj a11 nj n11 cj c11 _ _ _ (HVJ9.out.up hb11').nr HV11.out.nr HVJ9.out.le HV11.out.le HVJ9.out.cm HV11.out.cm).mono ?_; rintro e w12 ⟨rfl, q, rfl⟩
    rw [val_limbs, cmpN_self]
    have hb12 := bdrewN hb11' q
    clear hb11'
    go_wp2_with fail
    refine (pow_any k n1 _ (by show k < 4294967296; omega) (by omega)).mono ?_; rintro e w13 ⟨a13, n13, c13, rfl, ho13, hv13, hb13⟩
    clear ho13 hv13
    have hb13' := bstep hb12 hb13
    have HVI13 := Lib.hid (HVI9.out.up hb13')
    have HVH13 := Lib.hid (HVH9.out.up hb13')
    have HRX13 := Lib.hid (HRX9.out.up hb13')
    have H1d := Lib.hid (H19.out.up hb13')
    have H2d := Lib.hid (H29.out.up hb13')
    have hbW := bstep hb9W hb13'
    clear hb12 hb13 hb13' HVI9 HVH9 HVJ9 HRX9 H19 H29 HV11
    go_wp2_with fail
  case' neg =>
    obtain rfl : nx = n1 + 1 := by omega
    obtain ⟨_, hx0, hall⟩ := HBX.out.len.resolve_left (by have := HL1.out; have := HLX.out; omega)
    obtain rfl : nj = 0 := by rw [HVJ9.out.len, hx0]; rfl
    have HALL : Hid (horn k l + 1 = k ^ n1) := by rw [HL1.out]; exact hall
    have e0 : (((n1 + 1 : Nat) : Int) == (n1 : Int)) = false := by rw [beq_eq_false_iff_ne]; omega
    clear hnx hall hx0 hlen
    go_wp2_with fail
    refine (pow_any k n1 _ (by show k < 4294967296; omega) (by omega)).mono ?_; rintro e w10 ⟨a10, n10, c10, rfl, ho10, hv10, hb10⟩
    have HV10 := Lib.hid hv10
    have HVI10 := Lib.hid (HVI9.out.up hb10)
    clear ho10 hv10
    go_wp2_with fail
    refine (from_any 1 _ (by omega)).mono ?_; rintro e w11 ⟨n11, rfl, ho11, hv11, hb11⟩
    have hn11 : n11 ≤ 2 := hv11.le
    have HV11 := Lib.hid hv11
    have hb11' := bstep hb10 hb11
    clear ho11 hv11
    go_wp2_with fail
    refine (add_any ai _ ni n11 ci 2 _ _ _ (HVI10.out.up hb11).nr HV11.out.nr (by omega) (by omega)).mono ?_; rintro e w12 ⟨a12, n12, c12, rfl, ho12, hv12, hb12⟩
    rw [val_limbs, val_limbs, HALL.out] at hv12
    have HV12 := Lib.hid hv12
    have hb12' := bstep hb11' hb12
    have HV10c := Lib.hid (HV10.out.up (bstep hb11 hb12))
    clear ho12 hv12 HV10 HVI10 HV11
    go_wp2_with fail
    refine (natCmp_any a12 a10 n12 n10 c12 c10 _ _ _ HV12.out.nr HV10c.out.nr HV12.out.le HV10c.out.le HV12.out.cm HV10c.out.cm).mono ?_; rintro e w13 ⟨rfl, q, rfl⟩
    rw [val_limbs, cmpN_self]
    have hb13' := bdrewN hb12' q
    have HVI13 := Lib.hid (HVI9.out.up hb13')
    have HVH13 := Lib.hid (HVH9.out.up hb13')
    have HRX13 := Lib.hid (HRX9.out.up hb13')
    have H1d := Lib.hid (H19.out.up hb13')
    have H2d := Lib.hid (H29.out.up hb13')
    have hbW := bstep hb9W hb13'
    clear hb10 hb11 hb11' hb12 hb12' hb13' HVI9 HVH9 HVJ9 HRX9 H19 H29 HV12 HV10c HALL
    generalize w12.drewN q = w13 at *
    go_wp2_with fail
  all_goals
    refine (wordCmp_any a1 a2 _ n2 c1 c2 l v _ H1d.out.rk H2d.out.rk (by unfold maxLen; omega) (by unfold maxLen; omega)).mono ?_; rintro e w14 ⟨rfl, hb14⟩
    have hbd := cmpW_bd HM1.out HM2.out
    have han := cmpW_anti HM2.out HM1.out
    have hnx := HBX.out.next HE1.out HE2.out
    have heq : l.length = v.length → cmpW l v = cmpN (horn k l) (horn k v) := fun e => by rw [cmpW_horn HM1.out HM2.out, if_neg (by omega), if_neg (by omega)]
    generalize cmpW l v = z at *
    obtain ⟨z2, hz2⟩ : ∃ z2, cmpW v l = z2 := ⟨_, rfl⟩
    rw [hz2] at han
    have HZ2 := Lib.hid hz2
    clear hz2
    have HNX := Lib.hid hnx
    have HEQ := Lib.hid heq
    have HAN := Lib.hid han
    have HBD := Lib.hid hbd
    have H1e := Lib.hid (H1d.out.up hb14)
    have H2e := Lib.hid (H2d.out.up hb14)
    have HVIe := Lib.hid (HVI13.out.up hb14)
    have HVHe := Lib.hid (HVH13.out.up hb14)
    have HRXe := Lib.hid (HRX13.out.up hb14)
    have hbW2 := bstep hbW hb14
    clear hnx heq han hbd hbW hb14 H1d H2d HVI13 HVH13 HRX13
    have hz : z = -1 ∨ z = 0 ∨ z = 1 := by have := HBD.out; omega
    obtain ⟨z3, hz3⟩ : ∃ z3, cmpN (horn k l) (horn k v) = z3 := ⟨_, rfl⟩
    have HZ3 := Lib.hid hz3
    clear hz3
    by_cases hl : n1 = n2
    · obtain rfl : z = z3 := (HEQ.out (by rw [← HL1.out, ← HL2.out]; exact hl)).trans HZ3.out
      obtain rfl : n1 = n2 := hl
      rcases hz with rfl | rfl | rfl
      · obtain rfl : z2 = 1 := by have := HAN.out; omega
        have HNXc := HNX; clear HNX
        have hle := HNXc.out rfl
        obtain ⟨y, hy⟩ : ∃ y, cmpW x v = y := ⟨_, rfl⟩
        rw [hy] at hle
        have hled : decide (y ≤ 0) = true := by simpa using hle
        have HY := Lib.hid hy
        clear hy
        go_wp2_with fail
        refine (natCmp_any ai ah ni nh ci ch _ _ _ HVIe.out.nr HVHe.out.nr HVIe.out.le HVHe.out.le HVIe.out.cm HVHe.out.cm).mono ?_; rintro e w15 ⟨rfl, q, rfl⟩
        rw [val_limbs, val_limbs, HZ3.out]
        go_wp2_with fail
        refine (wordCmp_any a2 a1 n1 n1 c2 c1 v l _ (H2e.out.rk.dr q) (H1e.out.rk.dr q) (by unfold maxLen; omega) (by unfold maxLen; omega)).mono ?_; rintro e w16 ⟨rfl, hb16⟩
        rw [HZ2.out]
        have hbW3 := bstep (bdrewN hbW2 q) hb16
        go_wp2_with fail
        refine (wordCmp_any ax a2 _ n1 cx c2 x v _ ((HRXe.out.dr q).up hb16) ((H2e.out.rk.dr q).up hb16) (by unfold maxLen; omega) (by unfold maxLen; omega)).mono ?_; rintro e w17 ⟨rfl, hb17⟩
        rw [HY.out]
        go_wp2
        go_ret
        exact ⟨rfl, bstep hbW3 hb17⟩
      · obtain rfl : z2 = 0 := by have := HAN.out; omega
        have HNXc := HNX; clear HNX
        go_wp2_with fail
        refine (natCmp_any ai ah ni nh ci ch _ _ _ HVIe.out.nr HVHe.out.nr HVIe.out.le HVHe.out.le HVIe.out.cm HVHe.out.cm).mono ?_; rintro e w15 ⟨rfl, q, rfl⟩
        rw [val_limbs, val_limbs, HZ3.out]
        go_wp2_with fail
        refine (wordCmp_any a2 a1 n1 n1 c2 c1 v l _ (H2e.out.rk.dr q) (H1e.out.rk.dr q) (by unfold maxLen; omega) (by unfold maxLen; omega)).mono ?_; rintro e w16 ⟨rfl, hb16⟩
        rw [HZ2.out]
        have hbW3 := bstep (bdrewN hbW2 q) hb16
        go_wp2
        go_ret
        exact ⟨rfl, hbW3⟩
      · obtain rfl : z2 = -1 := by have := HAN.out; omega
        have HNXc := HNX; clear HNX
        go_wp2_with fail
        refine (natCmp_any ai ah ni nh ci ch _ _ _ HVIe.out.nr HVHe.out.nr HVIe.out.le HVHe.out.le HVIe.out.cm HVHe.out.cm).mono ?_; rintro e w15 ⟨rfl, q, rfl⟩
        rw [val_limbs, val_limbs, HZ3.out]
        go_wp2_with fail
        refine (wordCmp_any a2 a1 n1 n1 c2 c1 v l _ (H2e.out.rk.dr q) (H1e.out.rk.dr q) (by unfold maxLen; omega) (by unfold maxLen; omega)).mono ?_; rintro e w16 ⟨rfl, hb16⟩
        rw [HZ2.out]
        have hbW3 := bstep (bdrewN hbW2 q) hb16
        go_wp2
        go_ret
        exact ⟨rfl, hbW3⟩
    · have hlb : ((n1 : Int) == (n2 : Int)) = false := by rw [beq_eq_false_iff_ne]; omega
      rcases hz with rfl | rfl | rfl
      · obtain rfl : z2 = 1 := by have := HAN.out; omega
        have HNXc := HNX; clear HNX
        have hle := HNXc.out rfl
        obtain ⟨y, hy⟩ : ∃ y, cmpW x v = y := ⟨_, rfl⟩
        rw [hy] at hle
        have hled : decide (y ≤ 0) = true := by simpa using hle
        have HY := Lib.hid hy
        clear hy
        have q0 : True := trivial
        obtain ⟨q, hq⟩ : ∃ q : Nat, q = 0 := ⟨0, rfl⟩
        clear hq
        go_wp2_with fail
        refine (wordCmp_any a2 a1 n2 n1 c2 c1 v l _ H2e.out.rk H1e.out.rk (by unfold maxLen; omega) (by unfold maxLen; omega)).mono ?_; rintro e w16 ⟨rfl, hb16⟩
        rw [HZ2.out]
        have hbW3 := bstep hbW2 hb16
        go_wp2_with fail
        refine (wordCmp_any ax a2 _ n2 cx c2 x v _ (HRXe.out.up hb16) (H2e.out.rk.up hb16) (by unfold maxLen; omega) (by unfold maxLen; omega)).mono ?_; rintro e w17 ⟨rfl, hb17⟩
        rw [HY.out]
        go_wp2
        go_ret
        exact ⟨rfl, bstep hbW3 hb17⟩
      · obtain rfl : z2 = 0 := by have := HAN.out; omega
        have HNXc := HNX; clear HNX
        have q0 : True := trivial
        obtain ⟨q, hq⟩ : ∃ q : Nat, q = 0 := ⟨0, rfl⟩
        clear hq
        go_wp2_with fail
        refine (wordCmp_any a2 a1 n2 n1 c2 c1 v l _ H2e.out.rk H1e.out.rk (by unfold maxLen; omega) (by unfold maxLen; omega)).mono ?_; rintro e w16 ⟨rfl, hb16⟩
        rw [HZ2.out]
        have hbW3 := bstep hbW2 hb16
        go_wp2
        go_ret
        exact ⟨rfl, hbW3⟩
      · obtain rfl : z2 = -1 := by have := HAN.out; omega
        have HNXc := HNX; clear HNX
        have q0 : True := trivial
        obtain ⟨q, hq⟩ : ∃ q : Nat, q = 0 := ⟨0, rfl⟩
        clear hq
        go_wp2_with fail
        refine (wordCmp_any a2 a1 n2 n1 c2 c1 v l _ H2e.out.rk H1e.out.rk (by unfold maxLen; omega) (by unfold maxLen; omega)).mono ?_; rintro e w16 ⟨rfl, hb16⟩
        rw [HZ2.out]
        have hbW3 := bstep hbW2 hb16
        go_wp2
        go_ret
        exact ⟨rfl, hbW3⟩

theorem order_row (k : Int) (a1 : Option Addr) (c1 : Nat) (l : List Int) (a2 : Option Addr) (c2 : Nat) (v : List Int) (W : World) (R : Nat → Addr) (hS : Sent W R)
    (hR1 : Rd W a1 l.length 1 (l.map (Value.int .i64))) (hl1 : l.length ≤ c1) (hz1 : c1 * 8 ≤ 140737488351232) (hn1 : a1 = none → c1 = 0) (hx1 : ∀ x ∈ l, -9223372036854775808 ≤ x ∧ x ≤ 9223372036854775807)
    (hR2 : Rd W a2 v.length 1 (v.map (Value.int .i64))) (hl2 : v.length ≤ c2) (hz2 : c2 * 8 ≤ 140737488351232) (hn2 : a2 = none → c2 = 0) (hx2 : ∀ x ∈ v, -9223372036854775808 ≤ x ∧ x ≤ 9223372036854775807) :
    Calls Tryd.prog 6 #[.int .i64 k, .slice a1 l.length c1, .slice a2 v.length c2] W (TrueBelow W) := by
  have hm1 : l.length ≤ maxLen := by unfold maxLen; omega
  have hm2 : v.length ≤ maxLen := by unfold maxLen; omega
  have s1 : Sl .i64 W a1 l.length c1 l := ⟨⟨rfl, hR1⟩, hl1, by unfold maxLen; omega, hn1⟩
  have s2 : Sl .i64 W a2 v.length c2 v := ⟨⟨rfl, hR2⟩, hl2, by unfold maxLen; omega, hn2⟩
  cases he1 : chkErr k l with
  | some x => exact order_err1 k a1 a2 _ _ c1 c2 l v W R hS.glob s1.rk s2.rk hm1 hm2 x he1
  | none =>
    cases he2 : chkErr k v with
    | some x => exact order_err2 k a1 a2 _ _ c1 c2 l v W R hS.glob s1.rk s2.rk hm1 hm2 x he1 he2
    | none =>
      by_cases hb : 200 < l.length ∨ 200 < v.length
      · exact order_big k a1 a2 _ _ c1 c2 l v W R hS.glob s1.rk s2.rk hm1 hm2 he1 he2 hb
      · obtain ⟨k1, _, _, _⟩ := chk_none he1
        obtain ⟨kn, rfl⟩ : ∃ kn : Nat, k = (kn : Int) := ⟨k.toNat, by omega⟩
        exact order_ok kn a1 a2 _ _ c1 c2 l v W R hS.glob s1 s2 he1 he2 (by omega) (by omega)
end Go.Proofs.YtgojdnffmkigaaaDoor
