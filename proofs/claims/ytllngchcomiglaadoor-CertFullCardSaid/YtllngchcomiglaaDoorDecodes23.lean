/- The walk of edenlaw23.CertDecodes. -/
import Derived.Test.YtllngchcomiglaaDoorRefDec23
import Derived.Test.YtllngchcomiglaaDoorEncodes23
import Derived.WalkKit
import Derived.Deep.RegionHeld3
import Derived.Deep.RegionWith
import Derived.Lib.Hide
namespace Go.Proofs.YtllngchcomiglaaDoor
open Go.RowKit
set_option linter.unusedVariables false
set_option maxRecDepth 100000

theorem flat3_entsOf : ∀ (k : Nat) (l : List Int), l.length = 3 * k → flat3 (entsOf l) = l := by
  intro k
  induction k with
  | zero => intro l h; match l, h with | [], _ => rfl
  | succ k ih =>
    intro l h
    match l, h with
    | x :: y :: z :: r, h =>
      have := ih r (by simp at h; omega)
      simp only [entsOf, flat3, List.flatMap_cons] at this ⊢
      rw [this]; rfl
theorem firstBad_all {bs : List Int} (h : firstBad bs = none) (i : Nat) (hi : i < bs.length) : okAt bs i = true := by
  unfold firstBad at h
  rw [List.find?_eq_none] at h
  simpa using h i (by simpa using hi)
theorem decF_inv {bs : List Int} {w h : Int} {l : List (Int × Int × Int)} (hd : decF bs = .ok (w, h, l)) : EncOk w h l ∧ encL w h l = bs := by
  unfold decF at hd
  split at hd
  · cases hd
  rename_i hbig
  split at hd
  · cases hd
  rename_i hfb
  split at hd
  · cases hd
  rename_i hgood
  simp only [Except.ok.injEq, Prod.mk.injEq] at hd
  obtain ⟨hw, hh, hl⟩ := hd
  have hall := firstBad_all hfb
  obtain ⟨x0, x1, x2, x3, r, rfl⟩ : ∃ x0 x1 x2 x3 r, bs = x0 :: x1 :: x2 :: x3 :: r := by
    match bs, hgood with
    | x0 :: x1 :: x2 :: x3 :: r, _ => exact ⟨_, _, _, _, _, rfl⟩
    | [], h => simp at h
    | [_], h => simp at h
    | [_, _], h => simp at h
    | [_, _, _], h => simp at h
  have a0 := hall 0 (by simp)
  have a1 := hall 1 (by simp)
  have a2 := hall 2 (by simp)
  have a3 := hall 3 (by simp)
  simp [okAt, lim] at a0 a1 a2 a3
  simp at hw hh hl
  subst hw hh
  have hlen : r.length = 3 * (r.length / 3) := by simp at hgood; omega
  have hfl := flat3_entsOf _ r hlen
  rw [hl] at hfl
  have hll : 3 * l.length = r.length := by rw [← hfl, flat3_len]
  refine ⟨⟨by omega, by omega, by omega, by omega, by simp at hbig; omega, ?_⟩, ?_⟩
  · intro x hx
    obtain ⟨j, hj, rfl⟩ := List.getElem_of_mem hx
    obtain ⟨g0, g1, g2⟩ := flat3_get l j hj
    rw [hfl] at g0 g1 g2
    have b0 := hall (3 * j + 4) (by simp; omega)
    have b1 := hall (3 * j + 1 + 4) (by simp; omega)
    have b2 := hall (3 * j + 2 + 4) (by simp; omega)
    have eW : ∀ i, bW (x0 :: x1 :: x2 :: x3 :: r) (i + 4) = x2 := fun i => by simp [bW]
    have eH : ∀ i, bH (x0 :: x1 :: x2 :: x3 :: r) (i + 4) = x3 := fun i => by simp [bH]
    simp only [okAt, eW, eH, Bool.and_eq_true, decide_eq_true_eq] at b0 b1 b2
    rw [lim_ge4 _ _ _ (by omega)] at b0 b1 b2
    rw [if_pos (by omega)] at b0
    rw [if_neg (by omega)] at b1 b2
    simp [g0] at b0
    simp [g1] at b1
    simp [g2] at b2
    simp only [fitsE, fitsB, Bool.and_eq_true, decide_eq_true_eq]
    omega
  · rw [encL, hfl, show x0 = 69 from by omega, show x1 = 68 from by omega]

theorem map_app2 (bs : List Int) (x y : Int) : bs.map (Value.int .u8) ++ (#[Value.int .u8 x, Value.int .u8 y] : Array Value).toList = (bs ++ [x, y]).map (Value.int .u8) := by simp

theorem same_nil (W : World) : Calls Tryd.prog 11 #[.slice none 0 0, .slice none 0 0] W fun e w' => e = .returned (.bool true) ∧ ∃ n, w' = W.drewN n :=
  same_self none none 0 0 [] W ⟨rfl, .inl rfl⟩ ⟨rfl, .inl rfl⟩ (Nat.zero_le _)

set_option maxHeartbeats 4000000 in
theorem decodes_err (a : Option Addr) (c : Nat) (bs : List Int) (W : World) (R : Nat → Addr) (hE : Env W R) (hR : Rd W a bs.length 1 (bs.map (Value.int .u8))) (hB : ∀ x ∈ bs, 0 ≤ x ∧ x ≤ 255) (hlen : bs.length ≤ 140737488351232) (hc : a = none → c = 0) (at_ k : Int) (hd : decF bs = .error (at_, k)) :
    Calls Tryd.prog 5 #[.slice a bs.length c] W (TrueBelow W) := by
  have HD := Lib.hid hd; clear hd
  have HE := Lib.hid hE; clear hE
  have HR := Lib.hid hR; clear hR
  have HB := Lib.hid hB; clear hB
  go_enter Tryd.func5, Tryd.ntmps5
  go_wp2_with fail
  refine (awake_any _ R HE.out.sent.glob).mono ?_; rintro e w1 ⟨rfl, hb1⟩
  have HR1 := Lib.hid (HR.out.up hb1)
  go_wp2_with (first
    | (at_builtin; refine apx rfl _ _ _ rfl w1.heap.size et_u8 _ 0 [] (own_empty _ _ rfl (Nat.le_refl _)) rfl _ bs.length _ _ rfl hc (HR1.out.al _) (ints_oneCell _ _) (by unfold maxLen; omega) (by omega) (by simp) ?_; intro a6 c6 w6 h6; have o6 := h6.own; simp only [Nat.zero_add, List.nil_append] at o6)
    | (at_builtin; refine apl rfl _ _ _ rfl w1.heap.size et_u8 _ _ _ o6 rfl 2 _ _ rfl rfl rfl rfl (by unfold maxLen; omega) (by omega) (Nat.le_trans (by simp) h6.grew) ?_; intro a7 c7 w7 h7;
       obtain ⟨g7, rfl, g71, g72⟩ := own_form h7.own (by omega);
       obtain ⟨_, hcap, hcm⟩ : ∃ x : Unit, bs.length + 2 ≤ c7 ∧ c7 ≤ maxLen := (by obtain ⟨_, _, e, h1, h2⟩ := owns_slice h7.own; cases e; exact ⟨(), h1, h2⟩);
       have hcm' : c7 ≤ 9223372036854775807 := hcm))
  have hm7 : Rd w7 (some ⟨g7, 0, none⟩) (bs.length + 2) 1 ((bs ++ [71, 72]).map (Value.int .u8)) := by
    have := (owns_rd h7.own).2
    rwa [map_app2] at this
  have hm7b : Rd w7 (some ⟨g7, 0, none⟩) bs.length 1 (bs.map (Value.int .u8)) := by
    have := hm7.take (k := bs.length) (by omega)
    rwa [List.map_append, Nat.mul_one, List.take_left' (by simp)] at this
  have hb7 : Below W.heap.size W w7 := bstep hb1 (((balloc (bnil w1) _).trans h6.below).trans h7.below)
  obtain ⟨k0, k1⟩ : w7.cell? ⟨g7, bs.length, none⟩ = some (.int .u8 71) ∧ w7.cell? ⟨g7, bs.length + 1, none⟩ = some (.int .u8 72) := by
    obtain ⟨b, o, e, _, hc⟩ := hm7.2.resolve_left (by omega)
    cases e
    have e0 := hc bs.length (.int .u8 71) (by simp)
    have e1 := hc (bs.length + 1) (.int .u8 72) (by simp)
    rw [Nat.zero_add] at e0 e1
    exact ⟨e0, e1⟩
  have HM := Lib.hid hm7b; clear hm7 hm7b
  clear h6 o6 h7
  refine (decode_err _ _ _ bs _ R (HE.out.up hb7).sent.glob rfl HM.out HB.out (by unfold maxLen; omega) _ _ HD.out).mono ?_; rintro e w8 ⟨v8, rfl, he8, hb8⟩
  obtain ⟨g8, rfl, hg8, hx8⟩ := he8
  have HX8 : Hid (IsErr w7.heap.size R w8 (.iface 57 (.pointer (some ⟨g8, 0, none⟩))) opCert at_ k) := ⟨g8, rfl, hg8, hx8⟩
  clear hx8
  go_wp2_with fail
  refine (refDecode_any a c bs _ (HR.out.up (bstep hb7 hb8)) HB.out (by unfold maxLen; omega)).mono ?_
  rintro e w9 ⟨hb9, x9, y9, a9, n9, c9, N9, ao9, no9, co9, aa9, na9, ca9, rfl, hw9⟩
  rw [HD.out] at hw9
  obtain ⟨rfl, rfl, rfl, rfl, rfl, hw9⟩ := hw9
  have HW9 := Lib.hid hw9; clear hw9
  go_wp2_with fail
  have hb10 := balloc (bstep (bstep hb7 hb8) hb9) (.cells #[.int .i64 N9, .slice ao9 no9 co9, .slice aa9 na9 ca9] 39)
  have b710 := balloc (bstep hb8 hb9) (.cells #[.int .i64 N9, .slice ao9 no9 co9, .slice aa9 na9 ca9] 39)
  have b810 := balloc hb9 (.cells #[.int .i64 N9, .slice ao9 no9 co9, .slice aa9 na9 ca9] 39)
  have HW10 := Lib.hid (WantIs.up HW9.out (balloc (bnil _) (.cells #[.int .i64 N9, .slice ao9 no9 co9, .slice aa9 na9 ca9] 39)))
  have x0 : (w9.alloc (.cells #[.int .i64 N9, .slice ao9 no9 co9, .slice aa9 na9 ca9] 39)).cell? ⟨w9.heap.size, 0, none⟩ = some (.int .i64 N9) := by simp
  have x1 : (w9.alloc (.cells #[.int .i64 N9, .slice ao9 no9 co9, .slice aa9 na9 ca9] 39)).cell? ⟨w9.heap.size, 1, none⟩ = some (.slice ao9 no9 co9) := by simp
  have x2 : (w9.alloc (.cells #[.int .i64 N9, .slice ao9 no9 co9, .slice aa9 na9 ca9] 39)).cell? ⟨w9.heap.size, 2, none⟩ = some (.slice aa9 na9 ca9) := by simp
  have y0 := (b710.cell (p := ⟨g7, bs.length, none⟩) g72).trans k0
  have y1 := (b710.cell (p := ⟨g7, bs.length + 1, none⟩) g72).trans k1
  have z0 : w9.heap.size < (w9.alloc (.cells #[.int .i64 N9, .slice ao9 no9 co9, .slice aa9 na9 ca9] 39)).heap.size := by simp
  generalize w9.alloc (.cells #[.int .i64 N9, .slice ao9 no9 co9, .slice aa9 na9 ca9] 39) = w10 at *
  have z1 : g7 < w10.heap.size := Nat.lt_of_lt_of_le g72 b710.size
  have HX10 := Lib.hid (ErrIs.up (show ErrIs w7.heap.size R w8 _ (some (opCert, at_, k)) from HX8.out) b810)
  have HE10 := Lib.hid (HE.out.up hb10)
  have HM10 := Lib.hid (HM.out.up b710)
  have HR10 := Lib.hid (HR.out.up hb10)
  clear hb9 hb8 hb7 b710 b810 hb1 k0 k1 HX8 HW9 HM HR1
  generalize w9.heap.size = G at *
  have cv1 := fun {w' : World} (hb : Below w10.heap.size w10 w') => conv_str (c := c7) Tryd.underlying24 Tryd.underlying5 Tryd.underlying9 (HM10.out.up hb)
  have cv2 := fun {w' : World} (hb : Below w10.heap.size w10 w') => conv_str (c := c) Tryd.underlying24 Tryd.underlying5 Tryd.underlying9 (HR10.out.up hb)
  have CV1 := Lib.hid (p := ∀ w' : World, Below w10.heap.size w10 w' → _) (fun w' h => cv1 (w' := w') h); have CV2 := Lib.hid (p := ∀ w' : World, Below w10.heap.size w10 w' → _) (fun w' h => cv2 (w' := w') h)
  have cw1 := CV1.out _ (bnil _); have cw2 := CV2.out _ (bnil _)
  clear cv1 cv2
  have i0 : (0 : Int) ≤ (bs.length : Int) := by omega
  have i1 : (bs.length : Int) ≤ (c7 : Int) := by omega
  have i2 : (bs.length : Int) < (bs.length : Int) + 2 := by omega
  have i3 : IntKind.i64.wrap ((bs.length : Int) + 1) = (bs.length : Int) + 1 := IntWalk.i64_in _ (by omega)
  have i4 : (0 : Int) ≤ (bs.length : Int) + 1 := by omega
  have i5 : (bs.length : Int) + 1 < (bs.length : Int) + 2 := by omega
  have i6 : ((bs.length : Int) + 1).toNat = bs.length + 1 := by omega
  go_region_held3 (fun w' => w'.cell? ⟨G, 0, none⟩ = some (.int .i64 N9) ∧ w'.cell? ⟨G, 1, none⟩ = some (.slice ao9 no9 co9) ∧ w'.cell? ⟨G, 2, none⟩ = some (.slice aa9 na9 ca9) ∧ w'.cell? ⟨g7, bs.length, none⟩ = some (.int .u8 71) ∧ w'.cell? ⟨g7, bs.length + 1, none⟩ = some (.int .u8 72) ∧
      (convert 24 9 (.slice (some ⟨g7, 0, none⟩) bs.length c7)).run Tryd.prog w' = .ok (.string (strOfNums bs)) w' ∧ (convert 24 9 (.slice a bs.length c)).run Tryd.prog w' = .ok (.string (strOfNums bs)) w')
    (first | exact ⟨x0, x1, x2, y0, y1, CV1.out _ (bdrewN (bnil _) _), CV2.out _ (bdrewN (bnil _) _)⟩ | exact ⟨(hb11.cell z0).trans x0, (hb11.cell z0).trans x1, (hb11.cell z0).trans x2, (hb11.cell z1).trans y0, (hb11.cell z1).trans y1, CV1.out _ (bstep (bdrewN (bnil _) _) hb11), CV2.out _ (bstep (bdrewN (bnil _) _) hb11)⟩ | go_keep)
    (first
     | (go_at_call 11; refine (same_nil _).mono ?_; rintro e w' ⟨rfl, n, rfl⟩)
     | (go_at_call 14; refine (rawIs_eq w7.heap.size _ _ (some (opCert, at_, k)) _ R (HE10.out.up (bdrewN (bnil _) _)) (ErrIs.up HX10.out (bdrewN (bnil _) _)) (WantIs.up HW10.out (bdrewN (bnil _) _))).mono ?_; rintro e w11 ⟨rfl, hb11⟩))
  clear i3 i6 cw1 cw2
  go_wp2
  go_ret
  exact ⟨rfl, bstep (bdrewN hb10 _) hb11⟩

theorem same_selfB (a1 a2 : Option Addr) (n1 n2 c1 c2 : Nat) (l : List (Int × Int × Int)) (W : World) (h1 : n1 = l.length) (h2 : n2 = l.length) (hR1 : Rd W a1 l.length 3 (entsC l)) (hR2 : Rd W a2 l.length 3 (entsC l)) (hm1 : l.length ≤ maxLen) :
    Calls Tryd.prog 11 #[.slice a1 n1 c1, .slice a2 n2 c2] W fun e w' => e = .returned (.bool true) ∧ ∃ n, w' = W.drewN n := by
  subst h1; subst h2
  exact same_self a1 a2 c1 c2 l W hR1 hR2 hm1

set_option maxHeartbeats 4000000 in
theorem decodes_ok (a : Option Addr) (c : Nat) (bs : List Int) (W : World) (R : Nat → Addr) (hE : Env W R) (hR : Rd W a bs.length 1 (bs.map (Value.int .u8))) (hB : ∀ x ∈ bs, 0 ≤ x ∧ x ≤ 255) (hlen : bs.length ≤ 140737488351232) (hc : a = none → c = 0) (w h : Int) (l : List (Int × Int × Int)) (hd : decF bs = .ok (w, h, l)) (hml : l.length ≤ maxLen) :
    Calls Tryd.prog 5 #[.slice a bs.length c] W (TrueBelow W) := by
  have HD := Lib.hid hd; clear hd
  have HE := Lib.hid hE; clear hE
  have HR := Lib.hid hR; clear hR
  have HB := Lib.hid hB; clear hB
  go_enter Tryd.func5, Tryd.ntmps5
  go_wp2_with fail
  refine (awake_any _ R HE.out.sent.glob).mono ?_; rintro e w1 ⟨rfl, hb1⟩
  have HR1 := Lib.hid (HR.out.up hb1)
  go_wp2_with (first
    | (at_builtin; refine apx rfl _ _ _ rfl w1.heap.size et_u8 _ 0 [] (own_empty _ _ rfl (Nat.le_refl _)) rfl _ bs.length _ _ rfl hc (HR1.out.al _) (ints_oneCell _ _) (by unfold maxLen; omega) (by omega) (by simp) ?_; intro a6 c6 w6 h6; have o6 := h6.own; simp only [Nat.zero_add, List.nil_append] at o6)
    | (at_builtin; refine apl rfl _ _ _ rfl w1.heap.size et_u8 _ _ _ o6 rfl 2 _ _ rfl rfl rfl rfl (by unfold maxLen; omega) (by omega) (Nat.le_trans (by simp) h6.grew) ?_; intro a7 c7 w7 h7;
       obtain ⟨g7, rfl, g71, g72⟩ := own_form h7.own (by omega);
       obtain ⟨_, hcap, hcm⟩ : ∃ x : Unit, bs.length + 2 ≤ c7 ∧ c7 ≤ maxLen := (by obtain ⟨_, _, e, h1, h2⟩ := owns_slice h7.own; cases e; exact ⟨(), h1, h2⟩);
       have hcm' : c7 ≤ 9223372036854775807 := hcm))
  have hm7 : Rd w7 (some ⟨g7, 0, none⟩) (bs.length + 2) 1 ((bs ++ [71, 72]).map (Value.int .u8)) := by
    have := (owns_rd h7.own).2
    rwa [map_app2] at this
  have hm7b : Rd w7 (some ⟨g7, 0, none⟩) bs.length 1 (bs.map (Value.int .u8)) := by
    have := hm7.take (k := bs.length) (by omega)
    rwa [List.map_append, Nat.mul_one, List.take_left' (by simp)] at this
  have hb7 : Below W.heap.size W w7 := bstep hb1 (((balloc (bnil w1) _).trans h6.below).trans h7.below)
  obtain ⟨k0, k1⟩ : w7.cell? ⟨g7, bs.length, none⟩ = some (.int .u8 71) ∧ w7.cell? ⟨g7, bs.length + 1, none⟩ = some (.int .u8 72) := by
    obtain ⟨b, o, e, _, hc⟩ := hm7.2.resolve_left (by omega)
    cases e
    have e0 := hc bs.length (.int .u8 71) (by simp)
    have e1 := hc (bs.length + 1) (.int .u8 72) (by simp)
    rw [Nat.zero_add] at e0 e1
    exact ⟨e0, e1⟩
  have HM := Lib.hid hm7b; clear hm7 hm7b
  clear h6 o6 h7
  refine (decode_ok _ _ _ bs _ R (HE.out.up hb7).sent.glob rfl HM.out HB.out (by unfold maxLen; omega) _ _ _ HD.out).mono ?_; rintro e w8 ⟨a8, c8, rfl, hown8, hb8⟩
  have HR8 := Lib.hid (owns_rd hown8).2; clear hown8
  go_wp2_with fail
  refine (refDecode_any a c bs _ (HR.out.up (bstep hb7 hb8)) HB.out (by unfold maxLen; omega)).mono ?_
  rintro e w9 ⟨hb9, x9, y9, a9, n9, c9, N9, ao9, no9, co9, aa9, na9, ca9, rfl, hw9⟩
  rw [HD.out] at hw9
  obtain ⟨rfl, rfl, rfl, hr9, hw9⟩ := hw9
  have HR9 := Lib.hid hr9; clear hr9
  have HW9 := Lib.hid hw9; clear hw9
  go_wp2_with fail
  have hb10 := balloc (bstep (bstep hb7 hb8) hb9) (.cells #[.int .i64 N9, .slice ao9 no9 co9, .slice aa9 na9 ca9] 39)
  have b710 := balloc (bstep hb8 hb9) (.cells #[.int .i64 N9, .slice ao9 no9 co9, .slice aa9 na9 ca9] 39)
  have b810 := balloc hb9 (.cells #[.int .i64 N9, .slice ao9 no9 co9, .slice aa9 na9 ca9] 39)
  have b910 := balloc (bnil w9) (.cells #[.int .i64 N9, .slice ao9 no9 co9, .slice aa9 na9 ca9] 39)
  have HW10 := Lib.hid (WantIs.up HW9.out (balloc (bnil _) (.cells #[.int .i64 N9, .slice ao9 no9 co9, .slice aa9 na9 ca9] 39)))
  have x0 : (w9.alloc (.cells #[.int .i64 N9, .slice ao9 no9 co9, .slice aa9 na9 ca9] 39)).cell? ⟨w9.heap.size, 0, none⟩ = some (.int .i64 N9) := by simp
  have x1 : (w9.alloc (.cells #[.int .i64 N9, .slice ao9 no9 co9, .slice aa9 na9 ca9] 39)).cell? ⟨w9.heap.size, 1, none⟩ = some (.slice ao9 no9 co9) := by simp
  have x2 : (w9.alloc (.cells #[.int .i64 N9, .slice ao9 no9 co9, .slice aa9 na9 ca9] 39)).cell? ⟨w9.heap.size, 2, none⟩ = some (.slice aa9 na9 ca9) := by simp
  have y0 := (b710.cell (p := ⟨g7, bs.length, none⟩) g72).trans k0
  have y1 := (b710.cell (p := ⟨g7, bs.length + 1, none⟩) g72).trans k1
  have z0 : w9.heap.size < (w9.alloc (.cells #[.int .i64 N9, .slice ao9 no9 co9, .slice aa9 na9 ca9] 39)).heap.size := by simp
  generalize w9.alloc (.cells #[.int .i64 N9, .slice ao9 no9 co9, .slice aa9 na9 ca9] 39) = w10 at *
  have z1 : g7 < w10.heap.size := Nat.lt_of_lt_of_le g72 b710.size
  have HR810 := Lib.hid (HR8.out.up b810)
  have HR910 := Lib.hid (HR9.out.up b910)
  have HE10 := Lib.hid (HE.out.up hb10)
  have HM10 := Lib.hid (HM.out.up b710)
  have HR10 := Lib.hid (HR.out.up hb10)
  clear hb9 hb8 hb7 b710 b810 b910 hb1 k0 k1 HR8 HR9 HW9 HM HR1
  generalize w9.heap.size = G at *
  have cv1 := fun {w' : World} (hb : Below w10.heap.size w10 w') => conv_str (c := c7) Tryd.underlying24 Tryd.underlying5 Tryd.underlying9 (HM10.out.up hb)
  have cv2 := fun {w' : World} (hb : Below w10.heap.size w10 w') => conv_str (c := c) Tryd.underlying24 Tryd.underlying5 Tryd.underlying9 (HR10.out.up hb)
  have CV1 := Lib.hid (p := ∀ w' : World, Below w10.heap.size w10 w' → _) (fun w' h => cv1 (w' := w') h); have CV2 := Lib.hid (p := ∀ w' : World, Below w10.heap.size w10 w' → _) (fun w' h => cv2 (w' := w') h)
  have cw1 := CV1.out _ (bnil _); have cw2 := CV2.out _ (bnil _)
  clear cv1 cv2
  have i0 : (0 : Int) ≤ (bs.length : Int) := by omega
  have i1 : (bs.length : Int) ≤ (c7 : Int) := by omega
  have i2 : (bs.length : Int) < (bs.length : Int) + 2 := by omega
  have i3 : IntKind.i64.wrap ((bs.length : Int) + 1) = (bs.length : Int) + 1 := IntWalk.i64_in _ (by omega)
  have i4 : (0 : Int) ≤ (bs.length : Int) + 1 := by omega
  have i5 : (bs.length : Int) + 1 < (bs.length : Int) + 2 := by omega
  have i6 : ((bs.length : Int) + 1).toNat = bs.length + 1 := by omega
  go_region_held3 (fun w' => w'.cell? ⟨G, 0, none⟩ = some (.int .i64 N9) ∧ w'.cell? ⟨G, 1, none⟩ = some (.slice ao9 no9 co9) ∧ w'.cell? ⟨G, 2, none⟩ = some (.slice aa9 na9 ca9) ∧ w'.cell? ⟨g7, bs.length, none⟩ = some (.int .u8 71) ∧ w'.cell? ⟨g7, bs.length + 1, none⟩ = some (.int .u8 72) ∧
      (convert 24 9 (.slice (some ⟨g7, 0, none⟩) bs.length c7)).run Tryd.prog w' = .ok (.string (strOfNums bs)) w' ∧ (convert 24 9 (.slice a bs.length c)).run Tryd.prog w' = .ok (.string (strOfNums bs)) w')
    (first | exact ⟨x0, x1, x2, y0, y1, CV1.out _ (bdrewN (bnil _) _), CV2.out _ (bdrewN (bnil _) _)⟩ | exact ⟨(hb11.cell z0).trans x0, (hb11.cell z0).trans x1, (hb11.cell z0).trans x2, (hb11.cell z1).trans y0, (hb11.cell z1).trans y1, CV1.out _ (bstep (bdrewN (bnil _) _) hb11), CV2.out _ (bstep (bdrewN (bnil _) _) hb11)⟩ | go_keep)
    (first
     | (go_at_call 11; refine (same_selfB a8 a9 _ _ c8 c9 l _ rfl rfl (HR810.out.up (bdrewN (bnil _) _)) (HR910.out.up (bdrewN (bnil _) _)) hml).mono ?_; rintro e w' ⟨rfl, n, rfl⟩)
     | (go_at_call 14; refine (rawIs_eq w7.heap.size _ _ none _ R (HE10.out.up (bdrewN (bnil _) _)) rfl (WantIs.up HW10.out (bdrewN (bnil _) _))).mono ?_; rintro e w11 ⟨rfl, hb11⟩))
  clear i3 i6 cw1 cw2
  obtain ⟨H, hbs⟩ := decF_inv HD.out
  have hb12 := bstep (bdrewN hb10 (1 + n)) hb11
  have HR11 := Lib.hid (HR810.out.up (bstep (bdrewN (bnil _) _) hb11))
  have HR12 := Lib.hid (HR10.out.up (bstep (bdrewN (bnil _) _) hb11))
  have HBS := Lib.hid hbs; clear hbs
  go_wp2_with fail
  refine (encode_okL _ _ _ _ _ l _ rfl HR11.out H).mono ?_; rintro e w13 ⟨a13, c13, rfl, hown13, hb13⟩
  rw [HBS.out] at hown13
  have hl13 : 4 + 3 * l.length = bs.length := by rw [← encL_len x9 y9 l, HBS.out]
  rw [hl13] at hown13
  rw [hl13]
  clear hl13
  have cv1 := conv_str (c := c13) Tryd.underlying24 Tryd.underlying5 Tryd.underlying9 (owns_rd hown13).2
  have cv2 := conv_str (c := c) Tryd.underlying24 Tryd.underlying5 Tryd.underlying9 (HR12.out.up hb13)
  clear hown13
  go_wp2
  go_ret
  exact ⟨rfl, bstep hb12 hb13⟩

theorem decodes_walk (a : Option Addr) (c : Nat) (bs : List Int) (W : World) (R : Nat → Addr) (hE : Env W R) (hR : Rd W a bs.length 1 (bs.map (Value.int .u8))) (hl : bs.length ≤ c) (hc : c * 1 ≤ 140737488351232) (hn : a = none → c = 0) (hB : ∀ x ∈ bs, 0 ≤ x ∧ x ≤ 255) :
    Calls Tryd.prog 5 #[.slice a bs.length c] W (TrueBelow W) := by
  cases hd : decF bs with
  | error x => exact decodes_err a c bs W R hE hR hB (by omega) hn x.1 x.2 hd
  | ok x =>
    have hm : x.2.2.length ≤ 43689 := (decF_inv (w := x.1) (h := x.2.1) (l := x.2.2) hd).1.len
    exact decodes_ok a c bs W R hE hR hB (by omega) hn x.1 x.2.1 x.2.2 hd (by unfold maxLen; omega)
end Go.Proofs.YtllngchcomiglaaDoor
