/- edenref02.cut, whole, From. -/
import Derived.Test.YtoaooblodgejdaaDoorNatA
import Derived.Test.YtoaooblodgejdaaDoorHlv
import Derived.IntWalk
namespace Go.Proofs.YtoaooblodgejdaaDoor
open Go.RowKit
set_option linter.unusedVariables false
set_option maxRecDepth 100000
theorem wrU32 (n : Nat) (h : n < 4294967296) : IntKind.u32.wrap (n : Int) = (n : Int) := by
  show ((n : Int) % 4294967296) = _
  omega
set_option maxHeartbeats 4000000 in
/-- nothing is cut where the last half is not 0 -/
theorem ref02cut (a : Option Addr) (n c : Nat) (l : List Int) (W : World) (h : RK .u32 W a n l) (hm : n ≤ maxLen) (hl : 0 < n → l.getD (n - 1) 0 ≠ 0) (hnc : n ≤ c) (hcm : c ≤ maxLen) :
    Calls Tryd.prog 114 #[.slice a n c] W fun e w' => e = .returned (.slice a n c) ∧ W = w' := by
  have hmm : n ≤ 9223372036854775807 := hm
  have hcc : c ≤ 9223372036854775807 := hcm
  have HR := Lib.hid h
  clear h
  go_enter Tryd.func114, Tryd.ntmps114
  go_wp2_with fail
  go_loopw [3] (fun nx wr => nx = .int .i64 (n : Nat) ∧ wr = W) (fun _ _ => 0)
  case atStart => exact ⟨rfl, rfl⟩
  case round =>
    obtain ⟨rfl, hw⟩ := hrel
    rw [hw]
    clear hw
    have k0 : (0 : Int) ≤ (n : Int) := by omega
    have k1 : ((n : Int)).toNat = n := by omega
    by_cases hn : 0 < n
    · obtain ⟨b, o, rfl, _, hc⟩ := HR.out.addr hn
      have hz := hc (n - 1) (by omega)
      have hl2 := hl hn
      obtain ⟨z, hzz⟩ : ∃ z, l.getD (n - 1) 0 = z := ⟨_, rfl⟩
      rw [hzz] at hz hl2
      obtain ⟨m, rfl⟩ : ∃ m, n = m + 1 := ⟨n - 1, by omega⟩
      have e1 : m + 1 - 1 = m := rfl
      rw [e1] at hz
      have e2 : (((m + 1 : Nat) : Int)) - 1 = (m : Int) := by omega
      have e3 : IntKind.i64.wrap (m : Int) = (m : Int) := IntWalk.i64_in _ (by omega)
      have e4 : (0 : Int) < ((m + 1 : Nat) : Int) := by omega
      have e5 : (m : Int) < ((m + 1 : Nat) : Int) := by omega
      have e6 : (z == 0) = false := by rw [beq_eq_false_iff_ne]; exact hl2
      have e7 : (0 : Int) ≤ (m : Int) := by omega
      clear hc hl hzz
      generalize ((m + 1 : Nat) : Int) = M1 at *
      go_wp2
      go_ret
      exact ⟨rfl, rfl⟩
    · obtain rfl : n = 0 := by omega
      go_wp2
      go_ret
      exact ⟨rfl, rfl⟩
theorem cpR {w w' : World} {a : Addr} {v : Value} (hb : Below w.heap.size w w') (h : w.cell? a = some v) : w'.cell? a = some v := (hb.cell (World.block_lt_of_cell? _ _ h)).trans h
theorem wrU32' (n : Int) (h0 : 0 ≤ n) (h : n < 4294967296) : IntKind.u32.wrap n = n := by
  show (n % 4294967296) = _
  omega
theorem ofN_app (a b : List Nat) : (ofN (a ++ b)).map (Value.int .u32) = (ofN a).map (Value.int .u32) ++ (ofN b).map (Value.int .u32) := by simp [ofN]
theorem pairs_drop {l : List Nat} {k : Nat} (h : 2 * k < l.length) : pairs (l.drop (2 * k)) = (l.getD (2 * k) 0 + 65536 * (if 2 * k + 1 < l.length then l.getD (2 * k + 1) 0 else 0)) :: pairs (l.drop (2 * (k + 1))) := by
  have e0 : l.drop (2 * k) = l.getD (2 * k) 0 :: l.drop (2 * k + 1) := by
    rw [List.drop_eq_getElem_cons h]
    simp [h]
  by_cases h1 : 2 * k + 1 < l.length
  · have e1 : l.drop (2 * k + 1) = l.getD (2 * k + 1) 0 :: l.drop (2 * k + 1 + 1) := by
      rw [List.drop_eq_getElem_cons h1]
      simp [h1]
    rw [e0, e1, if_pos h1]
    rfl
  · have e1 : l.drop (2 * k + 1) = [] := List.drop_eq_nil_of_le (by omega)
    have e2 : l.drop (2 * (k + 1)) = [] := List.drop_eq_nil_of_le (by omega)
    rw [e0, e1, e2, if_neg h1]
    rfl
set_option maxHeartbeats 8000000 in
theorem ref02whole (a : Option Addr) (n c : Nat) (l : List Nat) (W : World) (h : RK .u32 W a n (ofN l)) (hm : n ≤ 1000000) (hl : 0 < n → l.getD (n - 1) 0 ≠ 0) (hnc : n ≤ c) (hcm : c ≤ maxLen) (hlt : ∀ x ∈ l, x < 65536) :
    Calls Tryd.prog 103 #[.slice a n c] W fun e w' => ∃ a' n' c', e = .returned (.slice a' n' c') ∧ w'.ownsRow W.heap.size 47 1 (.slice a' n' c') n' ((ofN (pairs l)).map (Value.int .u32)) ∧ Below W.heap.size W w' := by
  have hlen : n = l.length := by have := h.len; simpa [ofN] using this
  have HR := Lib.hid h
  have HLT := Lib.hid hlt
  have hcut := ref02cut a n c (ofN l) W h (by unfold maxLen; omega) (fun h0 => by
    have e := hl h0
    have e2 : (ofN l).getD (n - 1) 0 = ((l.getD (n - 1) 0 : Nat) : Int) := by simp [ofN, show n - 1 < l.length by omega]
    rw [e2]
    omega) hnc hcm
  have HLN := Lib.hid hlen
  have HCT := Lib.hid hcut
  clear h hlt hl hlen hcut
  go_enter Tryd.func103, Tryd.ntmps103
  go_wp2_with fail
  refine HCT.out.mono ?_; rintro e w1 ⟨rfl, hw1⟩
  rw [← hw1]
  clear hw1
  go_wp2_with fail
  go_loopw [3, 4] (fun lv iv wr => ∃ (k : Nat) (aa : Option Addr) (cc : Nat) (cur : List Nat), lv = .slice aa k cc ∧ iv = .int .i64 (2 * k : Nat) ∧ 2 * k ≤ n + 1 ∧ pairs l = cur ++ pairs (l.drop (2 * k)) ∧ cur.length = k ∧ wr.ownsRow W.heap.size 47 1 (.slice aa k cc) k ((ofN cur).map (Value.int .u32)) ∧ Below W.heap.size W wr) (fun _ iv _ => (n + 2) - (intOf iv).toNat)
  case atStart => exact ⟨0, none, 0, [], rfl, rfl, by omega, rfl, rfl, World.ownsRow_nil _ _ _ _, bnil W⟩
  case round =>
    obtain ⟨k, aa, cc, cur, rfl, rfl, hk, hp, hcl, ho, hb⟩ := hrel
    have HP := Lib.hid hp
    have HCL := Lib.hid hcl
    have HO := Lib.hid ho
    have HB := Lib.hid hb
    clear hp hcl ho hb
    by_cases hkn : 2 * k < n
    · have hlen2 := HLN.out
      obtain ⟨K, hK⟩ : ∃ K, 2 * k = K := ⟨_, rfl⟩
      have hpd := pairs_drop (l := l) (k := k) (by omega)
      rw [show 2 * (k + 1) = K + 2 from by omega, hK] at hpd
      rw [hK] at hkn ⊢
      have HKK := Lib.hid hK
      obtain ⟨b, o, rfl, _, hc⟩ := HR.out.addr (show 0 < n by omega)
      have z0 := cpR HB.out (hc K hkn)
      rw [show (ofN l).getD (K) 0 = ((l.getD (K) 0 : Nat) : Int) from by simp [ofN, show K < l.length by omega]] at z0
      have b0 := HLT.out (l.getD (K) 0) (by rw [show l.getD (K) 0 = l[K]'(by omega) from by simp [show K < l.length by omega]]; exact List.getElem_mem _)
      obtain ⟨x0, hx0⟩ : ∃ x0, l.getD (K) 0 = x0 := ⟨_, rfl⟩
      rw [hx0] at z0 b0 hpd
      by_cases h1 : K + 1 < n
      · skip
        have z1 := cpR HB.out (hc (K + 1) (by omega))
        rw [show (ofN l).getD (K + 1) 0 = ((l.getD (K + 1) 0 : Nat) : Int) from by simp [ofN, show K + 1 < l.length by omega]] at z1
        have b1 := HLT.out (l.getD (K + 1) 0) (by rw [show l.getD (K + 1) 0 = l[K + 1]'(by omega) from by simp [show K + 1 < l.length by omega]]; exact List.getElem_mem _)
        rw [if_pos (show K + 1 < l.length by omega)] at hpd
        obtain ⟨x1, hx1⟩ : ∃ x1, l.getD (K + 1) 0 = x1 := ⟨_, rfl⟩
        rw [hx1] at z1 b1 hpd
        have wv1 : IntKind.u32.wrap (65536 * (x1 : Int)) = 65536 * (x1 : Int) := wrU32' _ (by omega) (by omega)
        have wv2 : IntKind.u32.wrap ((x0 : Int) + 65536 * (x1 : Int)) = ((x0 + 65536 * x1 : Nat) : Int) := by rw [wrU32' _ (by omega) (by omega)]; omega
        have j4 : (K : Int) + 1 < (n : Int) := by omega
        have HPD := Lib.hid hpd
        have j0 : (0 : Int) ≤ (K : Int) := by omega
        have j1 : (K : Int) < (n : Int) := by omega
        have j2 : IntKind.i64.wrap ((K : Int) + 1) = (K : Int) + 1 := IntWalk.i64_in _ (by omega)
        have j3 : IntKind.i64.wrap ((K : Int) + 2) = ((K + 2 : Nat) : Int) := by rw [IntWalk.i64_in _ (by omega)]; omega
        have j5 : (0 : Int) ≤ (K : Int) + 1 := by omega
        have j6 : ((K : Int) + 1).toNat = K + 1 := by omega
        have j7 : ((K : Int)).toNat = K := by omega
        have hk6 : k ≤ 1000000 := by omega
        clear hc hpd hlen2 hK
        go_wp2_with (first | (at_builtin; refine apl rfl _ _ _ rfl W.heap.size et_nat _ k _ HO.out rfl 1 _ _ rfl rfl rfl rfl (by unfold maxLen; omega) (by omega) HB.out.size ?_; intro a6 c6 w6 h6; have H6 := Lib.hid h6; clear h6))
        go_roundw
        case rel => exact ⟨k + 1, a6, c6, cur ++ [x0 + 65536 * x1], rfl, congrArg (Value.int .i64) (by have := HKK.out; omega), by have := HKK.out; omega, by rw [HP.out, HKK.out, HPD.out, List.append_assoc, show 2 * (k + 1) = K + 2 from by have := HKK.out; omega]; rfl, by rw [List.length_append, HCL.out]; rfl, by have := H6.out.own; rw [ofN_app]; exact this, HB.out.trans H6.out.below⟩
        case measure => have := HKK.out; simp [intOf]; omega
      · skip
        rw [if_neg (show ¬ K + 1 < l.length by omega), Nat.mul_zero, Nat.add_zero] at hpd
        have j4 : ¬ (K : Int) + 1 < (n : Int) := by omega
        have HPD := Lib.hid hpd
        have j0 : (0 : Int) ≤ (K : Int) := by omega
        have j1 : (K : Int) < (n : Int) := by omega
        have j2 : IntKind.i64.wrap ((K : Int) + 1) = (K : Int) + 1 := IntWalk.i64_in _ (by omega)
        have j3 : IntKind.i64.wrap ((K : Int) + 2) = ((K + 2 : Nat) : Int) := by rw [IntWalk.i64_in _ (by omega)]; omega
        have j5 : (0 : Int) ≤ (K : Int) + 1 := by omega
        have j6 : ((K : Int) + 1).toNat = K + 1 := by omega
        have j7 : ((K : Int)).toNat = K := by omega
        have hk6 : k ≤ 1000000 := by omega
        clear hc hpd hlen2 hK
        go_wp2_with (first | (at_builtin; refine apl rfl _ _ _ rfl W.heap.size et_nat _ k _ HO.out rfl 1 _ _ rfl rfl rfl rfl (by unfold maxLen; omega) (by omega) HB.out.size ?_; intro a6 c6 w6 h6; have H6 := Lib.hid h6; clear h6))
        go_roundw
        case rel => exact ⟨k + 1, a6, c6, cur ++ [x0], rfl, congrArg (Value.int .i64) (by have := HKK.out; omega), by have := HKK.out; omega, by rw [HP.out, HKK.out, HPD.out, List.append_assoc, show 2 * (k + 1) = K + 2 from by have := HKK.out; omega]; rfl, by rw [List.length_append, HCL.out]; rfl, by have := H6.out.own; rw [ofN_app]; exact this, HB.out.trans H6.out.below⟩
        case measure => have := HKK.out; simp [intOf]; omega
    · have hkI : ¬ ((2 * k : Nat) : Int) < (n : Int) := by omega
      have hdn : l.drop (2 * k) = [] := List.drop_eq_nil_of_le (by have := HLN.out; omega)
      have hpe : pairs l = cur := by rw [HP.out, hdn]; show cur ++ [] = cur; rw [List.append_nil]
      have HPE := Lib.hid hpe
      clear hdn hpe
      generalize ((2 * k : Nat) : Int) = K2 at *
      go_wp2
      go_ret
      exact ⟨_, _, _, rfl, by rw [HPE.out]; exact HO.out, HB.out⟩
set_option maxHeartbeats 8000000 in
theorem ref02from (x : Nat) (W : World) (hx : x < 18446744073709551616) :
    Calls Tryd.prog 76 #[.int .u64 (x : Nat)] W fun e w' => ∃ a' n' c', e = .returned (.slice a' n' c') ∧ w'.ownsRow W.heap.size 47 1 (.slice a' n' c') n' ((ofN (limbs x)).map (Value.int .u32)) ∧ Below W.heap.size W w' := by
  go_enter Tryd.func76, Tryd.ntmps76
  go_wp2_with fail
  go_loopw [0, 3] (fun xv lv wr => ∃ (xk k : Nat) (aa : Option Addr) (cc : Nat) (cur : List Nat), xv = .int .u64 (xk : Nat) ∧ lv = .slice aa k cc ∧ ((k = 0 ∧ xk < 18446744073709551616) ∨ (k = 1 ∧ xk < 281474976710656) ∨ (k = 2 ∧ xk < 4294967296) ∨ (k = 3 ∧ xk < 65536) ∨ (k = 4 ∧ xk = 0)) ∧ hlv x = cur ++ hlv xk ∧ cur.length = k ∧ wr.ownsRow W.heap.size 47 1 (.slice aa k cc) k ((ofN cur).map (Value.int .u32)) ∧ Below W.heap.size W wr) (fun xv _ _ => (intOf xv).toNat)
  case atStart => exact ⟨x, 0, none, 0, [], rfl, rfl, .inl ⟨rfl, hx⟩, rfl, rfl, World.ownsRow_nil _ _ _ _, bnil W⟩
  case round =>
    obtain ⟨xk, k, aa, cc, cur, rfl, rfl, hk, hp, hcl, ho, hb⟩ := hrel
    have HP := Lib.hid hp
    have HCL := Lib.hid hcl
    have HO := Lib.hid ho
    have HB := Lib.hid hb
    have HK := Lib.hid hk
    clear hp hcl ho hb
    have hk4 : k ≤ 4 := by omega
    clear hk
    by_cases hz : 0 < xk
    · have hxm : xk < 18446744073709551616 := by have := HK.out; omega
      have hzI : (0 : Int) < (xk : Int) := by omega
      obtain ⟨q, hq⟩ : ∃ q, xk / 65536 = q := ⟨_, rfl⟩
      obtain ⟨m, hm⟩ : ∃ m, xk % 65536 = m := ⟨_, rfl⟩
      have hm6 : m < 65536 := by rw [← hm]; exact Nat.mod_lt _ (by decide)
      have HQ := Lib.hid (And.intro hq hm)
      have e1 : (xk : Int) / 65536 = (q : Int) := by omega
      have e2 : (xk : Int) % 65536 = (m : Int) := by omega
      have e3 : (xk : Int).tdiv 65536 = (q : Int) := by rw [Int.tdiv_eq_ediv_of_nonneg (by omega)]; exact e1
      have e4 : (xk : Int).tmod 65536 = (m : Int) := by rw [Int.tmod_eq_emod_of_nonneg (by omega)]; exact e2
      have e5 : IntKind.u32.wrap (m : Int) = (m : Int) := wrU32 _ (by omega)
      have e6 : IntKind.u64.wrap (m : Int) = (m : Int) := by show ((m : Int) % 18446744073709551616) = _; omega
      have e7 : IntKind.u64.wrap (q : Int) = (q : Int) := by show ((q : Int) % 18446744073709551616) = _; omega
      clear hq hm
      go_wp2_with (first | (at_builtin; refine apl rfl _ _ _ rfl W.heap.size et_u32 _ k _ HO.out rfl 1 _ _ rfl rfl rfl rfl (by unfold maxLen; omega) (by omega) HB.out.size ?_; intro a6 c6 w6 h6; have H6 := Lib.hid h6; clear h6))
      go_roundw
      case rel => exact ⟨q, k + 1, a6, c6, cur ++ [m], rfl, rfl, by have := HK.out; have := HQ.out; omega, by rw [HP.out, hlv_pos (by omega), HQ.out.1, HQ.out.2, List.append_assoc]; rfl, by rw [List.length_append, HCL.out]; rfl, by have := H6.out.own; rw [ofN_app]; exact this, HB.out.trans H6.out.below⟩
      case measure => have := HQ.out; simp [intOf]; omega
    · obtain rfl : xk = 0 := by omega
      have hpe : hlv x = cur := by rw [HP.out]; show cur ++ [] = cur; rw [List.append_nil]
      have hrk : RK .u32 wr aa k (ofN cur) := ⟨by rw [← HCL.out]; simp [ofN], (owns_rd HO.out).2⟩
      have hcm : k ≤ cc ∧ cc ≤ maxLen := by
        rcases owns_slice HO.out with ⟨_, _, e, h1, h2⟩
        cases e
        exact ⟨h1, h2⟩
      have hlst : 0 < k → cur.getD (k - 1) 0 ≠ 0 := fun h0 => by
        rw [← hpe]
        have h1 : x ≠ 0 := fun e => by
          subst e
          have : cur.length = 0 := by rw [← hpe]; rfl
          have := HCL.out
          omega
        have h2 := hlv_last h1
        rw [hpe] at h2 ⊢
        rw [HCL.out] at h2
        exact h2
      have hw := ref02whole aa k cc cur wr hrk (by omega) hlst hcm.1 hcm.2 (by rw [← hpe]; exact hlv_lt x)
      have HW := Lib.hid hw
      have HPE := Lib.hid hpe
      clear hpe hrk hcm hlst hw
      go_wp2_with fail
      refine HW.out.mono ?_; rintro e w9 ⟨a9, n9, c9, rfl, ho9, hb9⟩
      have HO9 := Lib.hid ho9
      have HB9 := Lib.hid hb9
      clear ho9 hb9
      go_wp2
      go_ret
      refine ⟨_, _, _, rfl, ?_, HB.out.trans (HB9.out.mono HB.out.size)⟩
      have h := HO9.out
      rw [← HPE.out, pairs_hlv] at h
      exact owns_base h HB.out.size
end Go.Proofs.YtoaooblodgejdaaDoor
