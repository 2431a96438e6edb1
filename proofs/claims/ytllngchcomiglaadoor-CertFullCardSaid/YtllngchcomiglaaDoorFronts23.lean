/- The walk of edenlaw23.CertFronts. -/
import Derived.Test.YtllngchcomiglaaDoorKeeps23
import Derived.Test.YtllngchcomiglaaDoorFrontP23
import Derived.Test.YtllngchcomiglaaDoorRaw2
import Derived.WalkKit
import Derived.Lib.Hide
import Derived.Deep.Cut
namespace Go.Proofs.YtllngchcomiglaaDoor
open Go.RowKit
set_option linter.unusedVariables false
set_option maxRecDepth 100000

theorem own_empty {w : World} {e : TypeId} {sz : Nat} (base g : Nat) (hg : g = w.heap.size) (hb : base ≤ w.heap.size) : (w.alloc (.cells #[] e)).ownsRow base e sz (.slice (some ⟨g, 0, none⟩) 0 0) 0 [] := by
  subst hg
  exact World.ownsRow_made w #[] 0 hb (by decide) (by simp)

/-- the place that the law makes of any number, as the walk reckons it -/
def placeW (n M : Int) : Int := (wrap64 (wrap64 (n.tmod (M + 1) + M) + 1)).tmod (M + 1)
theorem wrap64_in (n : Int) (h : -9223372036854775808 ≤ n ∧ n ≤ 9223372036854775807) : wrap64 n = n := by unfold wrap64; omega
theorem place_bd (n M : Int) (h0 : 0 ≤ M) (h1 : M ≤ 1000000) : ∃ k : Nat, placeW n M = (k : Int) ∧ (k : Int) ≤ M := by
  have hp : (0 : Int) < M + 1 := by omega
  have h1 := Int.lt_tmod_of_pos n hp
  have h3 := Int.tmod_lt_of_pos n hp
  have e1 : wrap64 (n.tmod (M + 1) + M) = n.tmod (M + 1) + M := wrap64_in _ (by omega)
  have e2 : wrap64 (n.tmod (M + 1) + M + 1) = n.tmod (M + 1) + M + 1 := wrap64_in _ (by omega)
  have h2 : (0 : Int) ≤ n.tmod (M + 1) + M + 1 := by omega
  have h4 := Int.tmod_nonneg (M + 1) h2
  have h5 := Int.tmod_lt_of_pos (n.tmod (M + 1) + M + 1) hp
  refine ⟨(placeW n M).toNat, ?_, ?_⟩
  · unfold placeW; rw [e1, e2]; omega
  · unfold placeW; rw [e1, e2]; omega

theorem Rd.take {w : World} {a : Option Addr} {n k sz : Nat} {cs : List Value} (h : Rd w a n sz cs) (hk : k ≤ n) : Rd w a k sz (cs.take (k * sz)) := by
  have hm : k * sz ≤ n * sz := Nat.mul_le_mul_right _ hk
  refine ⟨by rw [List.length_take, h.1]; omega, ?_⟩
  rcases h.2 with h0 | ⟨b, o, ha, hlt, hc⟩
  · exact .inl (by omega)
  · refine .inr ⟨b, o, ha, hlt, fun j u hu => hc j u ?_⟩
    rw [List.getElem?_take] at hu
    split at hu
    · exact hu
    · cases hu
theorem entsC_take (l : List (Int × Int × Int)) : ∀ q, (entsC l).take (q * 3) = entsC (l.take q) := by
  induction l with
  | nil => intro q; simp [entsC]
  | cons x l ih =>
    intro q
    cases q with
    | zero => simp [entsC]
    | succ q =>
      have e : entsC (x :: l) = .int .i64 x.1 :: .int .i64 x.2.1 :: .int .i64 x.2.2 :: entsC l := by simp only [entsC, entC, List.flatMap_cons]; rfl
      have e2 : entsC (x :: l.take q) = .int .i64 x.1 :: .int .i64 x.2.1 :: .int .i64 x.2.2 :: entsC (l.take q) := by simp only [entsC, entC, List.flatMap_cons]; rfl
      rw [e, List.take_succ_cons, e2, ← ih q, show (q + 1) * 3 = q * 3 + 1 + 1 + 1 from by omega]
      rfl
theorem errIs_self (o : ByteArray) (a n : Int) : errIs (some (o, a, n)) (some (o, a, n)) = true := by simp [errIs]
theorem rawIs_ok (B : Nat) (v x : Value) (o : ByteArray) (at_ n : Int) (w : World) (R : Nat → Addr) (hE : Env w R) (he : IsErr B R w v o at_ n) (hf : WantIs w x (some (o, at_, n))) :
    Calls Tryd.prog 14 #[v, x] w fun e w' => e = .returned (.bool true) ∧ Below w.heap.size w w' := by
  have := rawIs_any B v x (some (o, at_, n)) (some (o, at_, n)) w R hE he hf
  rw [errIs_self] at this
  exact this
theorem same_selfN (a1 a2 : Option Addr) (n1 n2 c1 c2 : Nat) (l : List (Int × Int × Int)) (W : World) (h1 : n1 = l.length) (h2 : n2 = l.length) (hR1 : Rd W a1 l.length 3 (entsC l)) (hR2 : Rd W a2 l.length 3 (entsC l)) (hm1 : l.length ≤ maxLen) :
    Calls Tryd.prog 11 #[.slice a1 n1 c1, .slice a2 n2 c2] W fun e w' => e = .returned (.bool true) ∧ ∃ n, w' = W.drewN n := by
  subst h1 h2; exact same_self a1 a2 c1 c2 l W hR1 hR2 hm1

set_option maxHeartbeats 4000000 in
theorem fronts_ok (w h n : Int) (a : Option Addr) (c : Nat) (l : List (Int × Int × Int)) (W : World) (R : Nat → Addr) (hE : Env W R) (hR : Rd W a l.length 3 (entsC l)) (H : EncOk w h l) (hbig : l.length ≤ 1000) (hcp : l.length ≤ c) :
    Calls Tryd.prog 6 #[.int .i64 w, .int .i64 h, .slice a l.length c, .int .i64 n] W (TrueBelow W) := by
  have HE := Lib.hid hE; clear hE
  have HR := Lib.hid hR; clear hR
  have HL := Lib.hid (encL_len w h l)
  go_enter Tryd.func6, Tryd.ntmps6
  go_wp2_with fail
  refine (awake_any _ R HE.out.sent.glob).mono ?_; rintro e w1 ⟨rfl, hb1⟩
  go_wp2_with fail
  refine (encode_okL w h _ _ _ l _ rfl (HR.out.up hb1) H).mono ?_; rintro e w2 ⟨a2, c2, rfl, hown2, hb2⟩
  obtain ⟨k, hk, hkl⟩ := place_bd n (4 + 3 * (l.length : Int)) (by omega) (by omega)
  have HK := Lib.hid hk; clear hk
  obtain ⟨g2, rfl, g21, g22⟩ := own_form hown2 (by omega)
  have hR2 := (owns_rd hown2).2
  have hcap : 4 + 3 * l.length ≤ c2 := by obtain ⟨_, _, e, h1, _⟩ := owns_slice hown2; cases e; exact h1
  go_upto_region 7 with fail
  have hk2 : (wrap64 (wrap64 (n.tmod (4 + 3 * (l.length : Int) + 1) + (4 + 3 * (l.length : Int))) + 1)).tmod (4 + 3 * (l.length : Int) + 1) = (k : Int) := HK.out
  rw [hk2]
  clear hk2
  have hRk : Rd w2 (some ⟨g2, 0, none⟩) k 1 (((encL w h l).take k).map (Value.int .u8)) := by
    have := hR2.take (k := k) (by omega)
    rwa [Nat.mul_one, ← List.map_take] at this
  go_wp2_with (first
    | (at_builtin; refine apx rfl _ _ _ rfl w2.heap.size et_u8 _ 0 [] (own_empty _ _ rfl (Nat.le_refl _)) rfl _ k _ _ rfl (by simp) (hRk.al _) (ints_oneCell _ _) (by unfold maxLen; omega) (by omega) (by simp) ?_; intro a3 c3 w3 h3))
  have hlk : ((encL w h l).take k).length = k := by rw [List.length_take, HL.out]; omega
  have HLK := Lib.hid hlk; clear hlk
  have hb3 : Below w2.heap.size w2 w3 := h3.below.trans (Below.refl _ _) |> fun h => (balloc (bnil w2) _).trans h
  have hR3 : Rd w3 a3 k 1 (((encL w h l).take k).map (Value.int .u8)) := by
    have := (owns_rd h3.own).2
    rwa [Nat.zero_add, List.nil_append] at this
  have hbd : ∀ x ∈ (encL w h l).take k, 0 ≤ x ∧ x ≤ 255 := fun x hx => encL_bd H x (List.mem_of_mem_take hx)
  have hbW3 : Below W.heap.size W w3 := bstep (bstep hb1 hb2) hb3
  have hF := decF_front H k (by rw [HL.out]; omega)
  have HF := Lib.hid hF; clear hF
  have HR3 := Lib.hid hR3; clear hR3
  have HBD := Lib.hid hbd; clear hbd
  have HA := Lib.hid h3; clear h3
  by_cases hc : k < 4 ∨ ¬ ((k : Int) - 4) % 3 = 0
  · have hFe := HF.out
    rw [if_pos hc] at hFe
    have HFe := Lib.hid hFe; clear hFe HF
    refine (decode_err _ _ _ ((encL w h l).take k) _ R (HE.out.up hbW3).sent.glob HLK.out.symm (by rw [HLK.out]; exact HR3.out) HBD.out (by rw [HLK.out]; unfold maxLen; omega) _ _ HFe.out).mono ?_; rintro e w4 ⟨v4, rfl, he4, hb4⟩
    obtain ⟨g4, rfl, hg4⟩ := he4
    have t1 : (k < 4 ∨ ((k : Int) % 3 == 1) = false) := by
      rcases hc with h | h
      · exact .inl h
      · exact .inr (by simp; omega)
    clear hc
    have hnew : ∀ (wx : World), Below w4.heap.size w4 wx → IsErr w3.heap.size R wx (.iface 57 (.pointer (some ⟨g4, 0, none⟩))) opCert k 8 := fun wx hbx => IsErr.up ⟨g4, rfl, hg4⟩ hbx
    have HNW := Lib.hid hnew; clear hnew
    by_cases hk4 : k < 4
    all_goals
      first
        | (have tt := t1.resolve_left hk4; clear t1)
        | clear t1
      go_wp2_with fail
      refine (rawNew_want _ _ _ _ rfl).mono ?_; rintro e w5 ⟨ao5, aa5, co5, ca5, rfl, hw5, hb5⟩
      go_wp2_with fail
      refine (rawIs_ok w3.heap.size _ _ _ _ _ _ R (HE.out.up (bstep (bstep hbW3 hb4) hb5)) (HNW.out _ hb5) hw5).mono ?_; rintro e w5b ⟨rfl, hb5b⟩
      have hbX : Below W.heap.size W w5b := bstep (bstep (bstep hbW3 hb4) hb5) hb5b
      have HRb := Lib.hid (hR2.up (bstep (bstep (bstep hb3 hb4) hb5) hb5b))
      go_wp2_with (first
        | (at_builtin; refine apx rfl _ _ _ rfl w5b.heap.size et_u8 _ 0 [] (own_empty _ _ rfl (Nat.le_refl _)) rfl _ (4 + 3 * l.length) _ _ rfl (by simp) (HRb.out.al _) (ints_oneCell _ _) (by unfold maxLen; omega) (by omega) (by simp) ?_; intro a6 c6 w6 h6; have o6 := h6.own; simp only [Nat.zero_add, List.nil_append] at o6)
        | (at_builtin; refine apl rfl _ _ _ rfl w5b.heap.size et_u8 _ _ _ o6 rfl 1 _ _ rfl rfl rfl rfl (by unfold maxLen; omega) (by omega) (Nat.le_trans (by simp) h6.grew) ?_; intro a7 c7 w7 h7))
      have hb7 : Below w5b.heap.size w5b w7 := ((balloc (bnil w5b) _).trans h6.below).trans h7.below
      have hR7 := (owns_rd h7.own).2
      have hb7W := bstep hbX hb7
      have hdm := (decF_more H).resolve_right (by simp [HL.out]; omega)
      have hat : (((encL w h l).length : Nat) : Int) + 1 = 4 + 3 * (l.length : Int) + 1 := by have := HL.out; omega
      rw [hat] at hdm
      clear hat
      have HDM := Lib.hid hdm; clear hdm
      have hbd7 : ∀ x ∈ encL w h l ++ [0], 0 ≤ x ∧ x ≤ 255 := fun x hx => by
        rcases List.mem_append.1 hx with hx | hx
        · exact encL_bd H x hx
        · simp at hx; omega
      have hl7 : (encL w h l ++ [0]).length = 4 + 3 * l.length + 1 := by simp [HL.out]
      have HL7 := Lib.hid hl7; clear hl7
      refine (decode_err _ _ _ (encL w h l ++ [0]) _ R (HE.out.up hb7W).sent.glob HL7.out.symm (by rw [HL7.out]; simpa using hR7) hbd7 (by rw [HL7.out]; unfold maxLen; omega) _ _ HDM.out).mono ?_; rintro e w8 ⟨v8, rfl, he8, hb8⟩
      obtain ⟨g8, rfl, hg8⟩ := he8
      go_wp2_with fail
      refine (rawNew_want _ _ _ _ rfl).mono ?_; rintro e w9 ⟨ao9, aa9, co9, ca9, rfl, hw9, hb9⟩
      go_wp2_with fail
      refine (rawIs_ok w7.heap.size _ _ _ _ _ _ R (HE.out.up (bstep (bstep hb7W hb8) hb9)) (IsErr.up ⟨g8, rfl, hg8⟩ hb9) hw9).mono ?_; rintro e w10 ⟨rfl, hb10⟩
      go_wp2
      go_ret
      exact ⟨rfl, bstep (bstep (bstep hb7W hb8) hb9) hb10⟩
  · have hFe := HF.out
    rw [if_neg hc] at hFe
    have HFe := Lib.hid hFe; clear hFe HF
    obtain ⟨q, hq1, hq2⟩ : ∃ q : Nat, k ≤ 4 + 3 * q ∧ 4 + 3 * q ≤ k := ⟨(k - 4) / 3, by omega, by omega⟩
    have hql : q ≤ l.length := by omega
    have hq3 : (k - 4) / 3 = q := by omega
    rw [hq3] at HFe
    clear hq3
    have hlq : (l.take q).length = q := by rw [List.length_take]; omega
    have HLQ := Lib.hid hlq; clear hlq
    refine (decode_ok _ _ _ ((encL w h l).take k) _ R (HE.out.up hbW3).sent.glob HLK.out.symm (by rw [HLK.out]; exact HR3.out) HBD.out (by rw [HLK.out]; unfold maxLen; omega) w h (l.take q) HFe.out).mono ?_; rintro e w4 ⟨a4, c4, rfl, hown4, hb4⟩
    rw [HLQ.out] at hown4
    rw [HLQ.out]
    have t1 : ((k : Int) % 3 == 1) = true := by simp; omega
    have t2 : ((k : Int) - 4) / 3 ≤ (c : Int) := by omega
    have t3 : (0 : Int) ≤ ((k : Int) - 4) / 3 := by omega
    have t4 : (((k : Int) - 4) / 3).toNat = q := by omega
    have hRq : Rd W a q 3 (entsC (l.take q)) := by
      have := HR.out.take hql
      rwa [entsC_take] at this
    have hRq4 := hRq.up (bstep hbW3 hb4)
    have HRq := Lib.hid hRq4
    have HR4 := Lib.hid (owns_rd hown4).2
    clear hRq4 hRq
    go_wp2_with fail
    refine (same_selfN _ _ _ _ _ _ (l.take q) _ HLQ.out.symm HLQ.out.symm (by rw [HLQ.out]; exact HR4.out) (by rw [HLQ.out]; exact HRq.out) (by rw [HLQ.out]; unfold maxLen; omega)).mono ?_; rintro e w5 ⟨rfl, n5, rfl⟩
    have hbX : Below W.heap.size W (w4.drewN n5) := bdrewN (bstep hbW3 hb4) n5
    have HRb := Lib.hid (hR2.up (bdrewN (bstep hb3 hb4) n5))
    clear t1 t2 t3 t4
    generalize w4.drewN n5 = w5 at *
    go_wp2_with (first
      | (at_builtin; refine apx rfl _ _ _ rfl w5.heap.size et_u8 _ 0 [] (own_empty _ _ rfl (Nat.le_refl _)) rfl _ (4 + 3 * l.length) _ _ rfl (by simp) (HRb.out.al _) (ints_oneCell _ _) (by unfold maxLen; omega) (by omega) (by simp) ?_; intro a6 c6 w6 h6; have o6 := h6.own; simp only [Nat.zero_add, List.nil_append] at o6)
      | (at_builtin; refine apl rfl _ _ _ rfl w5.heap.size et_u8 _ _ _ o6 rfl 1 _ _ rfl rfl rfl rfl (by unfold maxLen; omega) (by omega) (Nat.le_trans (by simp) h6.grew) ?_; intro a7 c7 w7 h7))
    have hb7 : Below w5.heap.size w5 w7 := ((balloc (bnil w5) _).trans h6.below).trans h7.below
    have hR7 := (owns_rd h7.own).2
    have hb7W := bstep hbX hb7
    have hdm := (decF_more H).resolve_right (by simp [HL.out]; omega)
    have hat : (((encL w h l).length : Nat) : Int) + 1 = 4 + 3 * (l.length : Int) + 1 := by have := HL.out; omega
    rw [hat] at hdm
    clear hat
    have HDM := Lib.hid hdm; clear hdm
    have hbd7 : ∀ x ∈ encL w h l ++ [0], 0 ≤ x ∧ x ≤ 255 := fun x hx => by
      rcases List.mem_append.1 hx with hx | hx
      · exact encL_bd H x hx
      · simp at hx; omega
    have hl7 : (encL w h l ++ [0]).length = 4 + 3 * l.length + 1 := by simp [HL.out]
    have HL7 := Lib.hid hl7; clear hl7
    refine (decode_err _ _ _ (encL w h l ++ [0]) _ R (HE.out.up hb7W).sent.glob HL7.out.symm (by rw [HL7.out]; simpa using hR7) hbd7 (by rw [HL7.out]; unfold maxLen; omega) _ _ HDM.out).mono ?_; rintro e w8 ⟨v8, rfl, he8, hb8⟩
    obtain ⟨g8, rfl, hg8⟩ := he8
    go_wp2_with fail
    refine (rawNew_want _ _ _ _ rfl).mono ?_; rintro e w9 ⟨ao9, aa9, co9, ca9, rfl, hw9, hb9⟩
    go_wp2_with fail
    refine (rawIs_ok w7.heap.size _ _ _ _ _ _ R (HE.out.up (bstep (bstep hb7W hb8) hb9)) (IsErr.up ⟨g8, rfl, hg8⟩ hb9) hw9).mono ?_; rintro e w10 ⟨rfl, hb10⟩
    go_wp2
    go_ret
    exact ⟨rfl, bstep (bstep (bstep hb7W hb8) hb9) hb10⟩
set_option maxHeartbeats 4000000 in
theorem fronts_err (w h n : Int) (a : Option Addr) (c : Nat) (l : List (Int × Int × Int)) (W : World) (R : Nat → Addr) (hG : Glob W R) (hR : Rd W a l.length 3 (entsC l)) (hlen : l.length ≤ maxLen) (at_ k : Int) (he : encErr w h l = some (at_, k)) :
    Calls Tryd.prog 6 #[.int .i64 w, .int .i64 h, .slice a l.length c, .int .i64 n] W (TrueBelow W) := by
  have HE := Lib.hid he; clear he
  have HG := Lib.hid hG; clear hG
  have HR := Lib.hid hR; clear hR
  go_enter Tryd.func6, Tryd.ntmps6
  go_wp2_with fail
  refine (awake_any _ R HG.out).mono ?_; rintro e w1 ⟨rfl, hb1⟩
  go_wp2_with fail
  refine (encode_err w h _ _ _ l _ R (HG.out.up hb1) rfl (HR.out.up hb1) hlen _ _ HE.out).mono ?_; rintro e w2 ⟨v2, rfl, ⟨g2, rfl, _, _⟩, hb2⟩
  go_wp2
  go_ret
  exact ⟨rfl, bstep hb1 hb2⟩

set_option maxHeartbeats 4000000 in
theorem fronts_big (w h n : Int) (a : Option Addr) (c : Nat) (l : List (Int × Int × Int)) (W : World) (R : Nat → Addr) (hG : Glob W R) (hR : Rd W a l.length 3 (entsC l)) (H : EncOk w h l) (hbig : 1000 < l.length) :
    Calls Tryd.prog 6 #[.int .i64 w, .int .i64 h, .slice a l.length c, .int .i64 n] W (TrueBelow W) := by
  have hl := H.len
  have HG := Lib.hid hG; clear hG
  have HR := Lib.hid hR; clear hR
  go_enter Tryd.func6, Tryd.ntmps6
  go_wp2_with fail
  refine (awake_any _ R HG.out).mono ?_; rintro e w1 ⟨rfl, hb1⟩
  go_wp2_with fail
  refine (encode_okL w h _ _ _ l _ rfl (HR.out.up hb1) H).mono ?_; rintro e w2 ⟨a2, c2, rfl, hown2, hb2⟩
  go_wp2
  go_ret
  exact ⟨rfl, bstep hb1 hb2⟩

theorem fronts_walk (w h : Int) (a : Option Addr) (c : Nat) (l : List (Int × Int × Int)) (n : Int) (W : World) (R : Nat → Addr) (hE : Env W R) (hR : Rd W a l.length 3 (entsC l)) (hcp : l.length ≤ c) (hc : c ≤ maxLen) :
    Calls Tryd.prog 6 #[.int .i64 w, .int .i64 h, .slice a l.length c, .int .i64 n] W (TrueBelow W) := by
  cases he : encErr w h l with
  | some x => exact fronts_err w h n a c l W R hE.sent.glob hR (Nat.le_trans hcp hc) x.1 x.2 he
  | none =>
    have H := encOk_of he
    by_cases hb : l.length ≤ 1000
    · exact fronts_ok w h n a c l W R hE hR H hb hcp
    · exact fronts_big w h n a c l W R hE.sent.glob hR H (by omega)
end Go.Proofs.YtllngchcomiglaaDoor
