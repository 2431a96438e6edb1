/- The walk of edenlaw03.WordTurns. -/
import Derived.Test.YtgojdnffmkigaaaDoorAwake03
import Derived.Test.YtgojdnffmkigaaaDoorWordS
import Derived.Test.YtgojdnffmkigaaaDoorWordL
import Derived.Test.YtgojdnffmkigaaaDoorRef03
import Derived.WalkKit
import Derived.Lib.Hide
namespace Go.Proofs.YtgojdnffmkigaaaDoor
open Go.RowKit
set_option linter.unusedVariables false
set_option maxRecDepth 100000

theorem turns_big (a : Option Addr) (c : Nat) (l : List Int) (m n : Int) (W : World) (R : Nat → Addr) (hG : Glob W R) (hb : 300 < l.length) (hn8 : l.length * 8 ≤ 140737488351232) :
    Calls Tryd.prog 5 #[.slice a l.length c, .int .i64 m, .int .i64 n] W (TrueBelow W) := by
  have HG := Lib.hid hG; clear hG
  go_enter Tryd.func5, Tryd.ntmps5
  go_wp2_with fail
  refine (awake03 _ R HG.out).mono ?_; rintro e w1 ⟨rfl, hb1⟩
  go_wp2
  go_ret
  exact ⟨rfl, hb1⟩

set_option maxHeartbeats 4000000 in
theorem turns_nil (a : Option Addr) (c : Nat) (m n : Int) (W : World) (R : Nat → Addr) (hG : Glob W R) (hS : Sl .i64 W a 0 c []) :
    Calls Tryd.prog 5 #[.slice a 0 c, .int .i64 m, .int .i64 n] W (TrueBelow W) := by
  have HG := Lib.hid hG; clear hG
  have HS := Lib.hid hS; clear hS
  go_enter Tryd.func5, Tryd.ntmps5
  go_wp2_with fail
  refine (awake03 _ R HG.out).mono ?_; rintro e w1 ⟨rfl, hb1⟩
  have HS1 := Lib.hid (HS.out.up hb1)
  go_wp2_with fail
  refine (least_zero a c _).mono ?_; rintro e w2 ⟨rfl, rfl⟩
  go_wp2_with fail
  refine (period_any a 0 c [] _ HS1.out.rk (by omega)).mono ?_; rintro e w2 ⟨p, hp, rfl, hb2⟩
  obtain rfl := hp.zero rfl
  clear hp
  go_wp2_with fail
  refine (refLeast_zero a c _).mono ?_; rintro e w3 ⟨rfl, rfl⟩
  go_wp2_with fail
  refine (refPeriod_any a 0 c [] _ (HS1.out.up hb2).rk (by omega)).mono ?_; rintro e w3 ⟨p, hp, rfl, hb3⟩
  obtain rfl := hp.zero rfl
  clear hp
  have HS3 := Lib.hid (HS1.out.up (bstep hb2 hb3))
  have hb3W := bstep (bstep hb1 hb2) hb3
  go_wp2_with fail
  refine (back_sl a 0 c [] _ HS3.out (by omega)).mono ?_; rintro e w4 ⟨a4, c4, rfl, hs4, hb4⟩
  have HS4 := Lib.hid hs4; clear hs4
  go_wp2_with fail
  refine (back_sl a4 0 c4 _ _ HS4.out (by omega)).mono ?_; rintro e w5 ⟨a5, c5, rfl, hs5, hb5⟩
  have HS5 := Lib.hid hs5; clear hs5
  have hb5W := bstep (bstep hb3W hb4) hb5
  go_wp2_with fail
  refine (ints_sl a5 a 0 0 c5 c _ [] _ HS5.out.rk (HS3.out.up (bstep hb4 hb5)).rk (by simp) (by omega)).mono ?_; rintro e w6 ⟨rfl, hb6⟩
  go_wp2_with fail
  refine (turn_sl a 0 c [] n _ (HS3.out.up (bstep (bstep hb4 hb5) hb6)) (by omega)).mono ?_; rintro e w7 ⟨a7, c7, rfl, hs7, hb7⟩
  clear hs7
  go_wp2
  go_ret
  exact ⟨rfl, bstep (bstep hb5W hb6) hb7⟩

set_option maxHeartbeats 4000000 in
theorem turns_ok (a : Option Addr) (L c : Nat) (l : List Int) (m n : Int) (W : World) (R : Nat → Addr) (hG : Glob W R) (hS : Sl .i64 W a L c l) (h300 : L ≤ 300) (hpos : 0 < L) :
    Calls Tryd.prog 5 #[.slice a L c, .int .i64 m, .int .i64 n] W (TrueBelow W) := by
  have hLn := hS.len
  have hL8 : L * 8 ≤ 140737488351232 := by omega
  have HG := Lib.hid hG; clear hG
  have HS := Lib.hid hS; clear hS
  have hlp : 0 < l.length := by omega
  have HLP := Lib.hid hlp; clear hlp
  have HLN := Lib.hid hLn; clear hLn
  have hLz : ((L : Int) == 0) = false := by rw [beq_eq_false_iff_ne]; omega
  have q1 := Int.lt_tmod_of_pos m (show (0 : Int) < 1048576 by omega)
  have q2 := Int.tmod_lt_of_pos m (show (0 : Int) < 1048576 by omega)
  have q3 := Int.lt_tmod_of_pos n (show (0 : Int) < 1048576 by omega)
  have q4 := Int.tmod_lt_of_pos n (show (0 : Int) < 1048576 by omega)
  go_enter Tryd.func5, Tryd.ntmps5
  go_wp2_with fail
  refine (awake03 _ R HG.out).mono ?_; rintro e w1 ⟨rfl, hb1⟩
  have HS1 := Lib.hid (HS.out.up hb1)
  go_wp2_with fail
  refine (least_any a L c l _ HS1.out.rk hpos hL8).mono ?_; rintro e w2 ⟨lst, hlst, rfl, hb2⟩
  have HLST := Lib.hid hlst; clear hlst
  go_wp2_with fail
  refine (period_any a L c l _ (HS1.out.up hb2).rk hL8).mono ?_; rintro e w3 ⟨p, hp, rfl, hb3⟩
  have HP := Lib.hid hp; clear hp
  have hb3' := bstep hb2 hb3
  go_wp2_with fail
  refine (refLeast_any a L c l _ (HS1.out.up hb3').rk hpos hL8).mono ?_; rintro e w4 ⟨lst', hlst', rfl, hb4⟩
  obtain rfl := HLST.out.uniq hlst'
  clear hlst'
  have hb4' := bstep hb3' hb4
  go_wp2_with fail
  refine (refPeriod_any a L c l _ (HS1.out.up hb4').rk hL8).mono ?_; rintro e w5 ⟨p', hp', rfl, hb5⟩
  obtain rfl := HP.out.uniq hp'
  clear hp'
  have hb5' := bstep hb4' hb5
  have HS5 := Lib.hid (HS1.out.up hb5')
  have hb5W := bstep hb1 hb5'
  clear hb2 hb3 hb3' hb4 hb4' hb5 hb5'
  go_wp2_with fail
  refine (back_sl a L c l _ HS5.out hL8).mono ?_; rintro e w6 ⟨a6, c6, rfl, hs6, hb6⟩
  have HS6 := Lib.hid hs6; clear hs6
  go_wp2_with fail
  refine (back_sl a6 L c6 _ _ HS6.out hL8).mono ?_; rintro e w7 ⟨a7, c7, rfl, hs7, hb7⟩
  have HS7 := Lib.hid hs7; clear hs7
  go_wp2_with fail
  refine (ints_sl a7 a L L c7 c _ l _ HS7.out.rk (HS5.out.up (bstep hb6 hb7)).rk (by simp) hL8).mono ?_; rintro e w8 ⟨rfl, hb8⟩
  have hb8' := bstep (bstep hb6 hb7) hb8
  have HS8 := Lib.hid (HS5.out.up hb8')
  have hb8W := bstep hb5W hb8'
  clear hb6 hb7 hb8 hb8'
  have hpp : 1 ≤ p := HP.out.pos HLP.out
  have hlsL : lst < L := by have := HLST.out.lt; have := HLN.out; omega
  -- the least turn, another turn
  go_wp2_with fail
  refine (turn_sl a L c l lst _ HS8.out hL8).mono ?_; rintro e w9 ⟨a9, c9, rfl, hs9, hb9⟩
  rw [turnAt_lt hlsL] at hs9
  have HS9 := Lib.hid hs9; clear hs9
  go_wp2_with fail
  refine (turn_sl a L c l n _ (HS8.out.up hb9) hL8).mono ?_; rintro e w10 ⟨a10, c10, rfl, hs10, hb10⟩
  obtain ⟨t, ht, htL⟩ : ∃ t, turnAt n L = t ∧ t < L := ⟨_, rfl, (turn_int n L hpos).2⟩
  rw [ht] at hs10
  clear ht
  have htl : t < l.length := by have := HLN.out; omega
  have HTL := Lib.hid htl; clear htl
  have HS10 := Lib.hid hs10; clear hs10
  have HS9b := Lib.hid (HS9.out.up hb10)
  have HSw := Lib.hid (HS8.out.up (bstep hb9 hb10))
  have hb10W := bstep (bstep hb8W hb9) hb10
  clear hb9 hb10
  go_wp2_with fail
  refine (wordCmp_any a9 a10 L L c9 c10 _ _ _ HS9b.out.rk HS10.out.rk (by unfold maxLen; omega) (by unfold maxLen; omega)).mono ?_; rintro e w11 ⟨rfl, hb11⟩
  have hcmp : cmpW (rot l lst) (rot l t) ≤ 0 := by
    unfold cmpW
    rw [rot_len, rot_len]
    have e0 : sgn (l.length : Int) (l.length : Int) = 0 := by unfold sgn; simp
    rw [e0]
    unfold or2
    rw [if_pos rfl]
    exact HLST.out.le t HTL.out
  generalize cmpW (rot l lst) (rot l t) = z at *
  have HSo := Lib.hid (HS10.out.up hb11)
  have HSl := Lib.hid (HS9b.out.up hb11)
  have HSv := Lib.hid (HSw.out.up hb11)
  have hb11W := bstep hb10W hb11
  clear hb11
  go_wp2_with fail
  refine (least_any a10 L c10 (rot l t) _ HSo.out.rk hpos hL8).mono ?_; rintro e w12 ⟨m12, hm12, rfl, hb12⟩
  have HM12 := Lib.hid hm12; clear hm12
  go_wp2_with fail
  refine (turn_sl a10 L c10 _ m12 _ (HSo.out.up hb12) hL8).mono ?_; rintro e w13 ⟨a13, c13, rfl, hs13, hb13⟩
  rw [turnAt_lt (show m12 < L by have := HM12.out.lt; rw [rot_len] at this; have := HLN.out; omega)] at hs13
  have HS13 := Lib.hid hs13; clear hs13
  go_wp2_with fail
  refine (ints_sl a13 a9 L L c13 c9 _ _ _ HS13.out.rk (HSl.out.up (bstep hb12 hb13)).rk (least_turn HTL.out HLST.out HM12.out) hL8).mono ?_; rintro e w14 ⟨rfl, hb14⟩
  have hb14' := bstep (bstep hb12 hb13) hb14
  have hb14W := bstep hb11W hb14'
  go_wp2_with fail
  refine (period_any a10 L c10 (rot l t) _ (HSo.out.up hb14').rk hL8).mono ?_; rintro e w15 ⟨p', hp', rfl, hb15⟩
  obtain rfl := isPer_turn HTL.out HP.out hp'
  clear hp'
  have hpi : (1 : Int) ≤ (p' : Int) := by omega
  have hmod : (L : Int) % (p' : Int) = 0 := by
    have := HP.out.dvd HLP.out
    rw [← HLN.out] at this
    omega
  have hb15W := bstep hb14W hb15
  have HSx := Lib.hid (HSv.out.up (bstep hb14' hb15))
  clear hb12 hb13 hb14 hb14' hb15
  go_wp2_with fail
  refine (turn_sl a L c l (m.tmod 1048576) _ HSx.out hL8).mono ?_; rintro e w16 ⟨a16, c16, rfl, hs16, hb16⟩
  have HS16 := Lib.hid hs16; clear hs16
  go_wp2_with fail
  refine (turn_sl a16 L c16 _ (n.tmod 1048576) _ HS16.out hL8).mono ?_; rintro e w17 ⟨a17, c17, rfl, hs17, hb17⟩
  have HS17 := Lib.hid hs17; clear hs17
  have hb17' := bstep hb16 hb17
  go_wp2_with fail
  refine (turn_sl a L c l (m.tmod 1048576 + n.tmod 1048576) _ (HSx.out.up hb17') hL8).mono ?_; rintro e w18 ⟨a18, c18, rfl, hs18, hb18⟩
  have HS18 := Lib.hid hs18; clear hs18
  have heq : rot (rot l (turnAt (m.tmod 1048576) L)) (turnAt (n.tmod 1048576) L) = rot l (turnAt (m.tmod 1048576 + n.tmod 1048576) L) := by
    rw [HLN.out]; exact turn_turn l _ _ HLP.out
  have HEQ := Lib.hid heq; clear heq
  go_wp2_with fail
  refine (ints_sl a17 a18 L L c17 c18 _ _ _ (HS17.out.up hb18).rk HS18.out.rk HEQ.out hL8).mono ?_; rintro e w19 ⟨rfl, hb19⟩
  have hb19' := bstep (bstep hb17' hb18) hb19
  have HSy := Lib.hid (HSx.out.up hb19')
  have hb19W := bstep hb15W hb19'
  clear hb16 hb17 hb17' hb18 hb19 hb19'
  go_wp2_with fail
  refine (turn_sl a L c l _ _ HSy.out hL8).mono ?_; rintro e w20 ⟨a20, c20, rfl, hs20, hb20⟩
  have HS20 := Lib.hid hs20; clear hs20
  have he20 : rot l (turnAt (p' : Int) L) = l := by rw [HLN.out]; exact turn_per HLP.out HP.out
  have HE20 := Lib.hid he20; clear he20
  go_wp2_with fail
  refine (ints_sl a20 a L L c20 c _ _ _ HS20.out.rk (HSy.out.up hb20).rk HE20.out hL8).mono ?_; rintro e w21 ⟨rfl, hb21⟩
  go_wp2_with fail
  refine (turn_sl a L c l _ _ (HSy.out.up (bstep hb20 hb21)) hL8).mono ?_; rintro e w22 ⟨a22, c22, rfl, hs22, hb22⟩
  rw [turnAt_self, rot_zero] at hs22
  have HS22 := Lib.hid hs22; clear hs22
  go_wp2_with fail
  refine (ints_sl a22 a L L c22 c _ _ _ HS22.out.rk (HSy.out.up (bstep (bstep hb20 hb21) hb22)).rk rfl hL8).mono ?_; rintro e w23 ⟨rfl, hb23⟩
  go_wp2
  go_ret
  exact ⟨rfl, bstep (bstep (bstep (bstep hb19W hb20) hb21) hb22) hb23⟩

theorem turns_row (a : Option Addr) (c : Nat) (l : List Int) (m n : Int) (W : World) (R : Nat → Addr) (hS : Sent W R) (hR : Rd W a l.length 1 (l.map (Value.int .i64))) (hl : l.length ≤ c) (hc : c * 8 ≤ 140737488351232) (hn : a = none → c = 0) (hx : ∀ x ∈ l, -9223372036854775808 ≤ x ∧ x ≤ 9223372036854775807) :
    Calls Tryd.prog 5 #[.slice a l.length c, .int .i64 m, .int .i64 n] W (TrueBelow W) := by
  have hSl : Sl .i64 W a l.length c l := ⟨⟨rfl, hR⟩, hl, by unfold maxLen; omega, hn⟩
  by_cases h1 : 300 < l.length
  · exact turns_big a c l m n W R hS.glob h1 (by omega)
  · by_cases h0 : l.length = 0
    · have : l = [] := List.eq_nil_of_length_eq_zero h0
      subst this
      exact turns_nil a c m n W R hS.glob hSl
    · exact turns_ok a l.length c l m n W R hS.glob hSl (by omega) (by omega)
end Go.Proofs.YtgojdnffmkigaaaDoor
