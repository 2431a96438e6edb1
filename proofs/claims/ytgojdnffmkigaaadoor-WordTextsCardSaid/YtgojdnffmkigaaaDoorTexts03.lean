/- The walk of edenlaw03.WordTexts. -/
import Derived.Test.YtgojdnffmkigaaaDoorAwake03
import Derived.WalkKit
import Derived.Deep.RegionWith
import Derived.Lib.Hide
namespace Go.Proofs.YtgojdnffmkigaaaDoor
open Go.RowKit
set_option linter.unusedVariables false
set_option maxRecDepth 100000

theorem sB_strOf {xs : List Int} (h : ∀ x ∈ xs, 0 ≤ x ∧ x ≤ 255) : sB (strOfNums xs) = xs := by
  unfold sB
  rw [strOfNums_data, List.map_map]
  refine (List.map_congr_left fun x hx => ?_).trans (List.map_id xs)
  have := h x hx
  simp only [Function.comp, UInt8.toNat_ofNat', id]
  omega
theorem textL_bd {k : Int} {l : List Int} (hk : k ≤ 4) (h : ∀ x ∈ l, 0 ≤ x ∧ x < k) : ∀ x ∈ textL l, 0 ≤ x ∧ x ≤ 255 := by
  intro x hx
  obtain ⟨y, hy, rfl⟩ := List.mem_map.1 hx
  have := h y hy
  omega
theorem strOf_size (xs : List Int) : (strOfNums xs).size = xs.length := by
  have := congrArg List.length (strOfNums_data xs)
  simpa using this
/-- what is written is read back -/
theorem par_text {k : Int} {l : List Int} (he : chkErr k l = none) : parErr k (strOfNums (textL l)) = none ∧ parL (strOfNums (textL l)) = l ∧ (strOfNums (textL l)).size = l.length := by
  obtain ⟨k1, k2, h1, h2⟩ := chk_none he
  have hb := sB_strOf (textL_bd k2 h2)
  have hs : (strOfNums (textL l)).size = l.length := by rw [strOf_size, textL_len]
  have hl : parL (strOfNums (textL l)) = l := by
    unfold parL
    rw [hb, textL, List.map_map]
    refine (List.map_congr_left fun x hx => ?_).trans (List.map_id l)
    simp only [Function.comp, id]; omega
  refine ⟨?_, hl, hs⟩
  unfold parErr
  rw [if_neg (by simp [alph_true.2 ⟨k1, k2⟩]), if_neg (by rw [hs]; omega), hb]
  rw [findIdx_none (fun x hx => ?_), if_neg (by omega)]
  obtain ⟨y, hy, rfl⟩ := List.mem_map.1 hx
  have := h2 y hy
  exact badB_false.2 (by omega)
/-- what is read is written again -/
theorem text_par {k : Int} {s : ByteArray} (he : parErr k s = none) : chkErr k (parL s) = none ∧ strOfNums (textL (parL s)) = s := by
  obtain ⟨k1, k2, h1, h2⟩ := par_none he
  refine ⟨chk_none_of k1 k2 (by rw [parL_len]; exact h1) h2, ?_⟩
  have : textL (parL s) = sB s := by
    unfold textL parL
    rw [List.map_map]
    refine (List.map_congr_left fun x hx => ?_).trans (List.map_id (sB s))
    simp only [Function.comp, id]; omega
  rw [this, strOf_sB]

/-- the second half: any text -/
def HalfPost (W : World) := TrueBelow W

set_option maxHeartbeats 4000000 in
theorem texts_walk (k : Int) (a : Option Addr) (c : Nat) (l : List Int) (s : ByteArray) (W : World) (R : Nat → Addr) (hG : Glob W R) (hR : RK .i64 W a l.length l) (hm : l.length ≤ maxLen) (hs : s.size ≤ maxLen) :
    Calls Tryd.prog 3 #[.int .i64 k, .slice a l.length c, .string s] W (TrueBelow W) := by
  have HG := Lib.hid hG; clear hG
  have HR := Lib.hid hR; clear hR
  cases he : chkErr k l with
  | some x =>
    have HE := Lib.hid he; clear he
    go_enter Tryd.func3, Tryd.ntmps3
    go_wp2_with fail
    refine (awake03 _ R HG.out).mono ?_; rintro e w1 ⟨rfl, hb1⟩
    go_wp2_with fail
    refine (text_err k a _ c l _ R (HG.out.up hb1) (HR.out.up hb1) hm x HE.out).mono ?_; rintro e w2 ⟨g2, rfl, he2, hb2⟩
    have hb2W := bstep hb1 hb2
    clear he2
    go_wp2_with fail
    go_region_with (go_at_call 12; refine (check_err k a _ c l _ R (HG.out.up hb2W.drew) (HR.out.up hb2W.drew) hm x HE.out).mono ?_; rintro e w3 ⟨g3, rfl, he3, hb3⟩; clear he3)
    have hb3W := bstep hb2W.drew hb3
    go_wp2_with fail
    cases hp : parErr k s with
    | some y =>
      have HP := Lib.hid hp; clear hp
      refine (parse_err k s _ R (HG.out.up hb3W) hs y HP.out).mono ?_; rintro e w4 ⟨g4, rfl, he4, hb4⟩
      clear he4
      go_wp2
      go_ret
      exact ⟨rfl, bstep hb3W hb4⟩
    | none =>
      have HP := Lib.hid hp; clear hp
      refine (parse_ok k s _ R HP.out).mono ?_; rintro e w4 ⟨a4, c4, rfl, hown4, hb4⟩
      have HR4 : Hid (RK .i64 w4 a4 s.size (parL s)) := RK.of_own hown4
      have HT := Lib.hid (text_par HP.out)
      clear hown4
      go_wp2_with fail
      refine (text_ok k a4 _ c4 (parL s) _ R (HG.out.up (bstep hb3W hb4)) HR4.out hs HT.out.1).mono ?_; rintro e w5 ⟨rfl, hb5⟩
      rw [HT.out.2]
      have hss : (s.toList == s.toList) = true := by simp
      go_wp2
      go_ret
      exact ⟨rfl, bstep (bstep hb3W hb4) hb5⟩
  | none =>
    have HE := Lib.hid he; clear he
    have HPT := Lib.hid (par_text HE.out)
    go_enter Tryd.func3, Tryd.ntmps3
    go_wp2_with fail
    refine (awake03 _ R HG.out).mono ?_; rintro e w1 ⟨rfl, hb1⟩
    go_wp2_with fail
    refine (text_ok k a _ c l _ R (HG.out.up hb1) (HR.out.up hb1) hm HE.out).mono ?_; rintro e w2 ⟨rfl, hb2⟩
    have hb2W := bstep hb1 hb2
    generalize hst : strOfNums (textL l) = t at *
    have HST := Lib.hid hst; clear hst
    go_wp2_with fail
    go_region_with (go_at_call 12; refine (check_ok k a _ c l _ R (HG.out.up hb2W.drew) (HR.out.up hb2W.drew) hm HE.out).mono ?_; rintro e w3 ⟨rfl, hb3⟩)
    have hb3W0 := bstep hb2W.drew hb3
    go_wp2_with fail
    refine (parse_ok k t _ R HPT.out.1).mono ?_; rintro e w6 ⟨a6, c6, rfl, hown6, hb6⟩
    have HR6 : Hid (RK .i64 w6 a6 t.size l) := by
      have := RK.of_own hown6
      rwa [HPT.out.2.1] at this
    clear hown6
    have hsz : ((t.size : Int) != (l.length : Int)) = false := by have := HPT.out.2.2; simp; omega
    go_wp2_with fail
    refine (ints_eqB _ _ _ _ _ _ l _ HR6.out (HR.out.up (bstep hb3W0 hb6)) hm).mono ?_; rintro e w7 ⟨rfl, hb7⟩
    have hb3W := bstep (bstep hb3W0 hb6) hb7
    clear hb6 hb7 hb3 hb2W hb3W0
    go_wp2_with fail
    cases hp : parErr k s with
    | some y =>
      have HP := Lib.hid hp; clear hp
      refine (parse_err k s _ R (HG.out.up hb3W) hs y HP.out).mono ?_; rintro e w4 ⟨g4, rfl, he4, hb4⟩
      clear he4
      go_wp2
      go_ret
      exact ⟨rfl, bstep hb3W hb4⟩
    | none =>
      have HP := Lib.hid hp; clear hp
      refine (parse_ok k s _ R HP.out).mono ?_; rintro e w4 ⟨a4, c4, rfl, hown4, hb4⟩
      have HR4 : Hid (RK .i64 w4 a4 s.size (parL s)) := RK.of_own hown4
      have HT := Lib.hid (text_par HP.out)
      clear hown4
      go_wp2_with fail
      refine (text_ok k a4 _ c4 (parL s) _ R (HG.out.up (bstep hb3W hb4)) HR4.out hs HT.out.1).mono ?_; rintro e w5 ⟨rfl, hb5⟩
      rw [HT.out.2]
      have hss : (s.toList == s.toList) = true := by simp
      go_wp2
      go_ret
      exact ⟨rfl, bstep (bstep hb3W hb4) hb5⟩

theorem texts_row (k : Int) (a : Option Addr) (c : Nat) (l : List Int) (s : ByteArray) (W : World) (R : Nat → Addr) (hE : Sent W R) (hR : Rd W a l.length 1 (l.map (Value.int .i64))) (hl : l.length ≤ c) (hc : c * 8 ≤ 140737488351232) (hn : a = none → c = 0) (hx : ∀ x ∈ l, -9223372036854775808 ≤ x ∧ x ≤ 9223372036854775807) (hs : s.size ≤ maxLen) :
    Calls Tryd.prog 3 #[.int .i64 k, .slice a l.length c, .string s] W (TrueBelow W) :=
  texts_walk k a c l s W R hE.glob ⟨rfl, hR⟩ (by unfold maxLen; omega) hs
end Go.Proofs.YtgojdnffmkigaaaDoor
