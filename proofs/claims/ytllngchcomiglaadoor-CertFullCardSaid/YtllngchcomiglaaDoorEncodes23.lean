/- The walk of edenlaw23.CertEncodes. -/
import Derived.Test.YtllngchcomiglaaDoorRef23
import Derived.WalkKit
import Derived.Lib.Hide
namespace Go.Proofs.YtllngchcomiglaaDoor
open Go.RowKit
set_option linter.unusedVariables false
set_option maxRecDepth 100000

theorem errIs_selfO (f : Option (ByteArray × Int × Int)) : errIs f f = true := by
  cases f with
  | none => rfl
  | some x => simp [errIs]
theorem rawIs_eq (B : Nat) (v x : Value) (f : Option (ByteArray × Int × Int)) (w : World) (R : Nat → Addr) (hE : Env w R) (he : ErrIs B R w v f) (hf : WantIs w x f) :
    Calls Tryd.prog 14 #[v, x] w fun e w' => e = .returned (.bool true) ∧ Below w.heap.size w w' := by
  have := rawIs_any B v x f f w R hE he hf
  rw [errIs_selfO] at this
  exact this

set_option maxHeartbeats 4000000 in
theorem encodes_err (w h : Int) (a : Option Addr) (c : Nat) (l : List (Int × Int × Int)) (W : World) (R : Nat → Addr) (hE : Env W R) (hR : Rd W a l.length 3 (entsC l)) (hlen : l.length * 24 ≤ 140737488351232) (hc : a = none → c = 0) (at_ k : Int) (he : encErr w h l = some (at_, k)) :
    Calls Tryd.prog 4 #[.int .i64 w, .int .i64 h, .slice a l.length c] W (TrueBelow W) := by
  have HN := Lib.hid he; clear he
  have HE := Lib.hid hE; clear hE
  have HR := Lib.hid hR; clear hR
  go_enter Tryd.func4, Tryd.ntmps4
  go_wp2_with fail
  refine (awake_any _ R HE.out.sent.glob).mono ?_; rintro e w1 ⟨rfl, hb1⟩
  go_wp2_with fail
  refine (lent_any a c l _ (HR.out.up hb1) hlen hc).mono ?_; rintro e w2 ⟨g, c', rfl, hc1, hc2, hg, hM, hb2⟩
  have hM1 : Rd w2 (some ⟨g, 0, none⟩) l.length 3 (entsC l) := by
    have := hM.take (k := l.length) (by omega)
    rwa [entsC_take, List.take_left] at this
  have HM := Lib.hid hM; clear hM
  go_wp2_with fail
  refine (encode_err w h _ _ _ l _ R (HE.out.up (bstep hb1 hb2)).sent.glob rfl hM1 (by unfold maxLen; omega) _ _ HN.out).mono ?_; rintro e w3 ⟨v3, rfl, he3, hb3⟩
  go_wp2_with fail
  refine (refEncode_any w h a c l _ (HR.out.up (bstep (bstep hb1 hb2) hb3)) (by unfold maxLen; omega)).mono ?_
  rintro e w4 ⟨hb4, a4, c4, n4, N4, ao4, no4, co4, aa4, na4, ca4, rfl, hw4⟩
  rw [HN.out] at hw4
  obtain ⟨rfl, rfl, rfl, hw4⟩ := hw4
  obtain ⟨g3, rfl, hg3, hx3⟩ := he3
  have cv := fun (w : World) => conv_str (P := Tryd.prog) (w := w) Tryd.underlying24 Tryd.underlying5 Tryd.underlying9 (a := none) (n := 0) (c := 0) (xs := []) ⟨rfl, .inl rfl⟩
  have HW4 := Lib.hid hw4; clear hw4
  have HX3 : Hid (IsErr w2.heap.size R w3 (.iface 57 (.pointer (some ⟨g3, 0, none⟩))) opCert at_ k) := ⟨g3, rfl, hg3, hx3⟩
  clear hx3
  clear HN
  go_wp2_with fail
  have hb5 := balloc (bstep (bstep (bstep hb1 hb2) hb3) hb4) (.cells #[.int .i64 N4, .slice ao4 no4 co4, .slice aa4 na4 ca4] 39)
  refine (rawIs_eq w2.heap.size _ _ (some (opCert, at_, k)) _ R (HE.out.up hb5) (ErrIs.up (show ErrIs w2.heap.size R w3 _ (some (opCert, at_, k)) from HX3.out) (balloc hb4 _)) (WantIs.up HW4.out (balloc (bnil _) _))).mono ?_; rintro e w6 ⟨rfl, hb6⟩
  have HM6 := Lib.hid (HM.out.up (bstep (balloc (bstep hb3 hb4) _) hb6))
  have HR6 := Lib.hid (HR.out.up (bstep hb5 hb6))
  go_wp2_with (first
    | (go_at_call 15; refine (kept_any g c c' a l _ HM6.out hc1 hc2 HR6.out).mono ?_; rintro e w7 ⟨rfl, n7, rfl⟩))
  go_ret
  exact ⟨rfl, bdrewN (bstep hb5 hb6) _⟩

set_option maxHeartbeats 4000000 in
theorem encodes_ok (w h : Int) (a : Option Addr) (c : Nat) (l : List (Int × Int × Int)) (W : World) (R : Nat → Addr) (hE : Env W R) (hR : Rd W a l.length 3 (entsC l)) (hlen : l.length * 24 ≤ 140737488351232) (hc : a = none → c = 0) (he : encErr w h l = none) :
    Calls Tryd.prog 4 #[.int .i64 w, .int .i64 h, .slice a l.length c] W (TrueBelow W) := by
  have H := encOk_of he
  have hll := H.len
  have HN := Lib.hid he; clear he
  have HE := Lib.hid hE; clear hE
  have HR := Lib.hid hR; clear hR
  go_enter Tryd.func4, Tryd.ntmps4
  go_wp2_with fail
  refine (awake_any _ R HE.out.sent.glob).mono ?_; rintro e w1 ⟨rfl, hb1⟩
  go_wp2_with fail
  refine (lent_any a c l _ (HR.out.up hb1) hlen hc).mono ?_; rintro e w2 ⟨g, c', rfl, hc1, hc2, hg, hM, hb2⟩
  have hM1 : Rd w2 (some ⟨g, 0, none⟩) l.length 3 (entsC l) := by
    have := hM.take (k := l.length) (by omega)
    rwa [entsC_take, List.take_left] at this
  have HM := Lib.hid hM; clear hM
  go_wp2_with fail
  refine (encode_okL w h _ _ _ l _ rfl hM1 H).mono ?_; rintro e w3 ⟨a3, c3, rfl, hown3, hb3⟩
  go_wp2_with fail
  refine (refEncode_any w h a c l _ (HR.out.up (bstep (bstep hb1 hb2) hb3)) (by unfold maxLen; omega)).mono ?_
  rintro e w4 ⟨hb4, a4, c4, n4, N4, ao4, no4, co4, aa4, na4, ca4, rfl, hw4⟩
  rw [HN.out] at hw4
  obtain ⟨rfl, hr4, hw4⟩ := hw4
  have HW4 := Lib.hid hw4; clear hw4
  have hr3 := (owns_rd hown3).2
  have hb5 := balloc (bstep (bstep (bstep hb1 hb2) hb3) hb4) (.cells #[.int .i64 N4, .slice ao4 no4 co4, .slice aa4 na4 ca4] 39)
  have cv1 := conv_str Tryd.underlying24 Tryd.underlying5 Tryd.underlying9 (c := c3) (hr3.up (balloc hb4 (.cells #[.int .i64 N4, .slice ao4 no4 co4, .slice aa4 na4 ca4] 39)))
  have cv2 := conv_str Tryd.underlying24 Tryd.underlying5 Tryd.underlying9 (c := c4) (hr4.al (.cells #[.int .i64 N4, .slice ao4 no4 co4, .slice aa4 na4 ca4] 39))
  have HR3 := Lib.hid hr3; clear hr3 hr4
  go_wp2_with fail
  refine (rawIs_eq w2.heap.size _ _ none _ R (HE.out.up hb5) rfl (WantIs.up HW4.out (balloc (bnil _) _))).mono ?_; rintro e w6 ⟨rfl, hb6⟩
  clear cv1 cv2
  have HM6 := Lib.hid (HM.out.up (bstep (balloc (bstep hb3 hb4) _) hb6))
  have HR6 := Lib.hid (HR.out.up (bstep hb5 hb6))
  go_wp2_with fail
  refine (kept_any g c c' a l _ HM6.out hc1 hc2 HR6.out).mono ?_; rintro e w7 ⟨rfl, n7, rfl⟩
  go_wp2_with fail
  have hb8 := bdrewN (bstep hb5 hb6) n7
  refine (decode_ok _ _ _ (encL w h l) _ R (HE.out.up hb8).sent.glob (encL_len w h l).symm (by rw [encL_len]; exact HR3.out.up (bdrewN (bstep (balloc hb4 _) hb6) n7)) (encL_bd H) (by rw [encL_len]; unfold maxLen; omega) w h l (decF_enc H)).mono ?_; rintro e w9 ⟨a9, c9, rfl, hown9, hb9⟩
  have HR9 := Lib.hid (owns_rd hown9).2
  have HR9b := Lib.hid (HR.out.up (bstep hb8 hb9))
  go_wp2_with (first
    | (go_at_call 11; refine (same_self _ _ _ _ l _ HR9.out HR9b.out (by unfold maxLen; omega)).mono ?_; rintro e w10 ⟨rfl, n10, rfl⟩))
  go_ret
  exact ⟨rfl, bdrewN (bstep hb8 hb9) _⟩

theorem encodes_walk (w h : Int) (a : Option Addr) (c : Nat) (l : List (Int × Int × Int)) (W : World) (R : Nat → Addr) (hE : Env W R) (hR : Rd W a l.length 3 (entsC l)) (hl : l.length ≤ c) (hc : c * 24 ≤ 140737488351232) (hn : a = none → c = 0) :
    Calls Tryd.prog 4 #[.int .i64 w, .int .i64 h, .slice a l.length c] W (TrueBelow W) := by
  cases he : encErr w h l with
  | some x => exact encodes_err w h a c l W R hE hR (by omega) hn x.1 x.2 he
  | none => exact encodes_ok w h a c l W R hE hR (by omega) hn he
end Go.Proofs.YtllngchcomiglaaDoor
