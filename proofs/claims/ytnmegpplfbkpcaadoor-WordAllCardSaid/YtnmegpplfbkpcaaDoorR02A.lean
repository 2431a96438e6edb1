/- edenref02.cut, half, whole, Norm over any limbs. -/
import Derived.Test.YtnmegpplfbkpcaaDoorNatA
import Derived.Test.YtnmegpplfbkpcaaDoorHlvA
import Derived.IntWalk
import Derived.BigRegion
import Derived.Deep.RegionHeld3
namespace Go.Proofs.YtnmegpplfbkpcaaDoor
open Go.RowKit
set_option linter.unusedVariables false
set_option maxRecDepth 100000

theorem cp16 {w w' : World} {a : Addr} {v : Value} (hb : Below w.heap.size w w') (h : w.cell? a = some v) : w'.cell? a = some v := (hb.cell (World.block_lt_of_cell? _ _ h)).trans h
theorem al16 {w : World} {a : Addr} {v : Value} {o : Obj} (h : w.cell? a = some v) : (w.alloc o).cell? a = some v := cp16 (balloc (bnil w) o) h
theorem ofNv_app (a b : List Nat) : (ofN (a ++ b)).map (Value.int .u32) = (ofN a).map (Value.int .u32) ++ (ofN b).map (Value.int .u32) := by simp [ofN]
theorem wr32 (n : Nat) (h : n < 4294967296) : IntKind.u32.wrap (n : Int) = (n : Int) := by
  show ((n : Int) % 4294967296) = _
  omega
set_option maxHeartbeats 4000000 in
theorem cut16 (a : Option Addr) (n c : Nat) (l : List Nat) (W : World) (h : RK .u32 W a n (ofN l)) (hnc : n ≤ c) (hcm : c ≤ maxLen) (hu : H16 l) :
    Calls Tryd.prog 115 #[.slice a n c] W fun e w' => ∃ k, e = .returned (.slice a k c) ∧ k ≤ n ∧ l.take k = hlv (v16 l) ∧ W = w' := by
  have hcc : c ≤ 9223372036854775807 := hcm
  have HR := Lib.hid h
  have HL : Hid (n = l.length) := by show n = _; rw [h.len, ofN_len]
  have HU := Lib.hid hu
  clear h hu
  go_enter Tryd.func115, Tryd.ntmps115
  go_wp2_with fail
  go_loopw [3] (fun nx wr => ∃ k : Nat, k ≤ n ∧ nx = .int .i64 (k : Nat) ∧ trim (l.take k) = trim l ∧ wr = W) (fun nx _ => (intOf nx).toNat)
  case atStart => exact ⟨n, Nat.le_refl _, rfl, by rw [List.take_of_length_le (by have := HL.out; omega)], rfl⟩
  case round =>
    obtain ⟨k, hk, rfl, htr, hw⟩ := hrel
    have HT := Lib.hid htr
    rw [hw]
    clear htr hw
    have k0 : (0 : Int) ≤ (k : Int) := by omega
    have k1 : ((k : Int)).toNat = k := by omega
    have k2 : (k : Int) ≤ (c : Int) := by omega
    by_cases hk0 : 0 < k
    · obtain ⟨b, o, rfl, _, hc⟩ := HR.out.addr (by omega)
      obtain ⟨m, rfl⟩ : ∃ m, k = m + 1 := ⟨k - 1, by omega⟩
      have hz := hc m (by omega)
      rw [ofN_at] at hz
      clear hc
      have e2 : (((m + 1 : Nat) : Int)) - 1 = (m : Int) := by omega
      have e3 : IntKind.i64.wrap (m : Int) = (m : Int) := IntWalk.i64_in _ (by omega)
      have e4 : (0 : Int) < ((m + 1 : Nat) : Int) := by omega
      have e5 : (m : Int) < (n : Int) := by omega
      have e7 : (0 : Int) ≤ (m : Int) := by omega
      have hml : m < l.length := by have := HL.out; omega
      by_cases z0 : l.getD m 0 = 0
      · have HF : Hid (trim (l.take m) = trim l) := by
          show _ = _
          rw [← trim_take_zero hml z0]; exact HT.out
        rw [z0] at hz
        clear z0 hml
        generalize hM : ((m + 1 : Nat) : Int) = M1 at *
        go_wp2
        go_roundw
        case rel => exact ⟨m, by omega, rfl, HF.out, trivial⟩
        case measure => simp [intOf]; omega
      · have HF : Hid (l.take (m + 1) = hlv (v16 l)) := by
          show _ = _
          rw [hlv_v16 HU.out, ← HT.out, trim_take_pos hml z0]
        have e6 : (((l.getD m 0 : Nat) : Int) == 0) = false := by rw [beq_eq_false_iff_ne]; omega
        generalize l.getD m 0 = z at *
        clear z0 hml
        generalize hM : ((m + 1 : Nat) : Int) = M1 at *
        go_wp2
        go_ret
        exact ⟨m + 1, rfl, hk, HF.out, rfl⟩
    · obtain rfl : k = 0 := by omega
      have HF : Hid (l.take 0 = hlv (v16 l)) := by
        show _ = _
        rw [hlv_v16 HU.out, ← HT.out]; simp [trim]
      go_wp2
      go_ret
      exact ⟨0, rfl, by omega, HF.out, rfl⟩
set_option maxHeartbeats 8000000 in
theorem half16 (a : Option Addr) (n c : Nat) (l : List Nat) (W : World) (h : NR W a n l) (hm : n ≤ 1000000) :
    Calls Tryd.prog 107 #[.slice a n c] W fun e w' => ∃ a' n' c', e = .returned (.slice a' n' c') ∧ w'.ownsRow W.heap.size 73 1 (.slice a' n' c') n' ((ofN (hlv (val l))).map (Value.int .u32)) ∧ n' ≤ 2 * n ∧ Below W.heap.size W w' := by
  have HL := Lib.hid h.len
  have HN := Lib.hid h
  clear h
  go_enter Tryd.func107, Tryd.ntmps107
  go_wp2_with fail
  go_loopw [3, 4] (fun lv iv wr => ∃ (k K : Nat) (aa : Option Addr) (cc : Nat), iv = .int .i64 (k : Nat) ∧ k ≤ n ∧ K = 2 * k ∧ lv = .slice aa K cc ∧ wr.ownsRow W.heap.size 73 1 (.slice aa K cc) K ((ofN (halves (l.take k))).map (Value.int .u32)) ∧ Below W.heap.size W wr) (fun _ iv _ => n - (intOf iv).toNat)
  case atStart => exact ⟨0, 0, none, 0, rfl, by omega, rfl, rfl, World.ownsRow_nil _ _ _ _, bnil W⟩
  case round =>
    obtain ⟨k, K, aa, cc, rfl, hk, hK, rfl, ho, hb⟩ := hrel
    have HO := Lib.hid ho
    have HB := Lib.hid hb
    have HKK := Lib.hid hK
    clear ho hb
    have hK6 : K ≤ 2000000 := by omega
    clear hK
    by_cases hkn : k < n
    · obtain ⟨b, o, rfl, hbW, hc⟩ := HN.out.addr (by omega)
      have z0 := cp16 HB.out (hc k hkn)
      have HBW := Lib.hid hbW
      clear hbW
      clear hc
      have hu := u32_at HN.out.2 k
      have ht := halves_take (l := l) (k := k) (by have := HL.out; omega)
      obtain ⟨x, hx⟩ : ∃ x, l.getD k 0 = x := ⟨_, rfl⟩
      rw [hx] at z0 hu ht
      have hu' : x < 4294967296 := hu
      obtain ⟨q, hq⟩ : ∃ q, x / 65536 = q := ⟨_, rfl⟩
      obtain ⟨m, hm'⟩ : ∃ m, x % 65536 = m := ⟨_, rfl⟩
      rw [hq, hm'] at ht
      have HT := Lib.hid ht
      have e1 : (x : Int) / 65536 = (q : Int) := by omega
      have e2 : (x : Int) % 65536 = (m : Int) := by omega
      have e3 : (x : Int).tdiv 65536 = (q : Int) := by rw [Int.tdiv_eq_ediv_of_nonneg (by omega)]; exact e1
      have e4 : (x : Int).tmod 65536 = (m : Int) := by rw [Int.tmod_eq_emod_of_nonneg (by omega)]; exact e2
      have e5 : IntKind.u32.wrap (m : Int) = (m : Int) := wr32 _ (by omega)
      have e6 : IntKind.u32.wrap (q : Int) = (q : Int) := wr32 _ (by omega)
      have j0 : (0 : Int) ≤ (k : Int) := by omega
      have j1 : (k : Int) < (n : Int) := by omega
      have j2 : IntKind.i64.wrap ((k : Int) + 1) = ((k + 1 : Nat) : Int) := by rw [IntWalk.i64_in _ (by omega)]; rfl
      have hbs := HB.out.size
      have HS0 : Hid (wr.drew.cell? ⟨b, o + k, none⟩ = some (.int .u32 (x : Nat))) := z0
      have HS1 : Hid ((wr.alloc (.cells #[.int .u32 (m : Int), .int .u32 (q : Int)] 73)).drew.cell? ⟨b, o + k, none⟩ = some (.int .u32 (x : Nat))) := al16 z0
      clear ht hu hu' hx hq hm' z0
      go_wp2_with fail
      go_region_held3 (fun w' => w'.cell? ⟨b, o + k, none⟩ = some (.int .u32 (x : Nat)))
        (first | with_reducible exact HS5.out | with_reducible exact HS0.out | with_reducible exact HS1.out | exact HS1.out | go_keep)
        (first | (refine step_app_lit (by rfl) _ _ _ (by rfl) W.heap.size et_u32 _ K _ HO.out (by rfl) 2 _ _ (by rfl) (by simp) (by rfl) (by rfl) (by unfold maxLen; omega) (by omega) hbs ?_; intro a5 c5 w5 ho5 hg5 hb5 hs5; have H5 := Lib.hid (And.intro ho5 hb5); have HS5 : Hid (w5.cell? ⟨b, o + k, none⟩ = some (.int .u32 (x : Nat))) := (hb5.cell (p := ⟨b, o + k, none⟩) HBW.out).trans HS0.out; clear ho5 hg5 hb5 hs5))
      all_goals
        go_wp2
        go_roundw
        case rel => exact ⟨k + 1, K + 2, a5, c5, rfl, by omega, by have := HKK.out; omega, rfl, by have h5 := H5.out.1; rw [HT.out, ofNv_app]; exact h5, HB.out.trans H5.out.2⟩
        case measure => simp [intOf]; omega
    · obtain rfl : k = n := by omega
      have i1 : ¬ (k : Int) < (k : Int) := by omega
      have ho := HO.out
      rw [List.take_of_length_le (by have := HL.out; omega)] at ho
      have hcm : K ≤ cc ∧ cc ≤ maxLen := by
        rcases owns_slice ho with ⟨_, _, e, h1, h2⟩
        cases e
        exact ⟨h1, h2⟩
      have HC := Lib.hid (cut16 aa K cc (halves l) wr (RK.of_own ho) hcm.1 hcm.2 (h16_halves HN.out.2))
      have HO2 := Lib.hid ho
      clear ho hcm HO
      go_wp2_with fail
      refine HC.out.mono ?_; rintro e w9 ⟨k9, rfl, hk9, ht9, rfl⟩
      have hpre := own_prefix HO2.out hk9
      rw [Nat.mul_one, ← List.map_take, ofN_take, ht9, v16_halves] at hpre
      have HPRE := Lib.hid hpre
      clear hpre ht9
      go_wp2
      go_ret
      exact ⟨_, k9, _, rfl, HPRE.out, by have := HKK.out; omega, HB.out⟩
theorem pairs_drop16 {l : List Nat} {k : Nat} (h : 2 * k < l.length) : pairs (l.drop (2 * k)) = (l.getD (2 * k) 0 + 65536 * (if 2 * k + 1 < l.length then l.getD (2 * k + 1) 0 else 0)) :: pairs (l.drop (2 * (k + 1))) := by
  have e0 : l.drop (2 * k) = l.getD (2 * k) 0 :: l.drop (2 * k + 1) := by
    rw [List.drop_eq_getElem_cons h]
    simp [h]
  by_cases h1 : 2 * k + 1 < l.length
  · have e1 : l.drop (2 * k + 1) = l.getD (2 * k + 1) 0 :: l.drop (2 * k + 1 + 1) := by
      rw [List.drop_eq_getElem_cons h1]
      simp [h1]
    rw [e0, e1, if_pos h1]
    rfl
  · have e1 : l.drop (2 * k + 1) = [] := List.drop_eq_nil_of_le (by omega)
    have e2 : l.drop (2 * (k + 1)) = [] := List.drop_eq_nil_of_le (by omega)
    rw [e0, e1, e2, if_neg h1]
    rfl
theorem wr32i (n : Int) (h0 : 0 ≤ n) (h : n < 4294967296) : IntKind.u32.wrap n = n := by
  show (n % 4294967296) = _
  omega
set_option maxHeartbeats 8000000 in
theorem whole16 (a : Option Addr) (n0 c : Nat) (l0 : List Nat) (W : World) (h0 : RK .u32 W a n0 (ofN l0)) (hm : n0 ≤ 1000000) (hnc : n0 ≤ c) (hcm : c ≤ maxLen) (hlt0 : H16 l0) :
    Calls Tryd.prog 108 #[.slice a n0 c] W fun e w' => ∃ a' n' c', e = .returned (.slice a' n' c') ∧ w'.ownsRow W.heap.size 73 1 (.slice a' n' c') n' ((ofN (limbs (v16 l0))).map (Value.int .u32)) ∧ n' ≤ n0 + 1 ∧ Below W.heap.size W w' := by
  have hcut := cut16 a n0 c l0 W h0 hnc hcm hlt0
  have HCT := Lib.hid hcut
  have HR0 := Lib.hid h0
  have HLT := Lib.hid (fun x (hx : x ∈ hlv (v16 l0)) => hlv_lt (v16 l0) x hx)
  have HPL : Hid (pairs (hlv (v16 l0)) = limbs (v16 l0)) := pairs_hlv _
  clear h0 hlt0 hcut
  go_enter Tryd.func108, Tryd.ntmps108
  go_wp2_with fail
  refine HCT.out.mono ?_; rintro e w1 ⟨n, rfl, hn0, htk, hw1⟩
  rw [← hw1]
  have hrk : RK .u32 W a n (ofN (hlv (v16 l0))) := by
    have h1 := HR0.out.2.take hn0
    rw [Nat.mul_one, ← List.map_take, ofN_take, htk] at h1
    refine ⟨?_, h1⟩
    rw [ofN_len, ← htk, List.length_take, ← ofN_len l0, ← HR0.out.len]
    omega
  generalize hlv (v16 l0) = l at *
  have HR := Lib.hid hrk
  have HLN : Hid (n = l.length) := by show n = _; rw [hrk.len, ofN_len]
  have hm : n ≤ 1000000 := by omega
  have HN0 := Lib.hid hn0
  clear hw1 hrk htk
  go_wp2_with fail
  go_loopw [3, 4] (fun lv iv wr => ∃ (k : Nat) (aa : Option Addr) (cc : Nat) (cur : List Nat), lv = .slice aa k cc ∧ iv = .int .i64 (2 * k : Nat) ∧ 2 * k ≤ n + 1 ∧ pairs l = cur ++ pairs (l.drop (2 * k)) ∧ cur.length = k ∧ wr.ownsRow W.heap.size 73 1 (.slice aa k cc) k ((ofN cur).map (Value.int .u32)) ∧ Below W.heap.size W wr) (fun _ iv _ => (n + 2) - (intOf iv).toNat)
  case atStart => exact ⟨0, none, 0, [], rfl, rfl, by omega, rfl, rfl, World.ownsRow_nil _ _ _ _, bnil W⟩
  case round =>
    obtain ⟨k, aa, cc, cur, rfl, rfl, hk, hp, hcl, ho, hb⟩ := hrel
    have HP := Lib.hid hp
    have HCL := Lib.hid hcl
    have HO := Lib.hid ho
    have HB := Lib.hid hb
    clear hp hcl ho hb
    by_cases hkn : 2 * k < n
    · have hlen2 := HLN.out
      obtain ⟨K, hK⟩ : ∃ K, 2 * k = K := ⟨_, rfl⟩
      have hpd := pairs_drop16 (l := l) (k := k) (by omega)
      rw [show 2 * (k + 1) = K + 2 from by omega, hK] at hpd
      rw [hK] at hkn ⊢
      have HKK := Lib.hid hK
      obtain ⟨b, o, rfl, _, hc⟩ := HR.out.addr (show 0 < n by omega)
      have z0 := cp16 HB.out (hc K hkn)
      rw [show (ofN l).getD (K) 0 = ((l.getD (K) 0 : Nat) : Int) from by simp [ofN, show K < l.length by omega]] at z0
      have b0 := HLT.out (l.getD (K) 0) (by rw [show l.getD (K) 0 = l[K]'(by omega) from by simp [show K < l.length by omega]]; exact List.getElem_mem _)
      obtain ⟨x0, hx0⟩ : ∃ x0, l.getD (K) 0 = x0 := ⟨_, rfl⟩
      rw [hx0] at z0 b0 hpd
      by_cases h1 : K + 1 < n
      · skip
        have z1 := cp16 HB.out (hc (K + 1) (by omega))
        rw [show (ofN l).getD (K + 1) 0 = ((l.getD (K + 1) 0 : Nat) : Int) from by simp [ofN, show K + 1 < l.length by omega]] at z1
        have b1 := HLT.out (l.getD (K + 1) 0) (by rw [show l.getD (K + 1) 0 = l[K + 1]'(by omega) from by simp [show K + 1 < l.length by omega]]; exact List.getElem_mem _)
        rw [if_pos (show K + 1 < l.length by omega)] at hpd
        obtain ⟨x1, hx1⟩ : ∃ x1, l.getD (K + 1) 0 = x1 := ⟨_, rfl⟩
        rw [hx1] at z1 b1 hpd
        have wv1 : IntKind.u32.wrap (65536 * (x1 : Int)) = 65536 * (x1 : Int) := wr32i _ (by omega) (by omega)
        have wv2 : IntKind.u32.wrap ((x0 : Int) + 65536 * (x1 : Int)) = ((x0 + 65536 * x1 : Nat) : Int) := by rw [wr32i _ (by omega) (by omega)]; omega
        have j4 : (K : Int) + 1 < (n : Int) := by omega
        have HPD := Lib.hid hpd
        have j0 : (0 : Int) ≤ (K : Int) := by omega
        have j1 : (K : Int) < (n : Int) := by omega
        have j2 : IntKind.i64.wrap ((K : Int) + 1) = (K : Int) + 1 := IntWalk.i64_in _ (by omega)
        have j3 : IntKind.i64.wrap ((K : Int) + 2) = ((K + 2 : Nat) : Int) := by rw [IntWalk.i64_in _ (by omega)]; omega
        have j5 : (0 : Int) ≤ (K : Int) + 1 := by omega
        have j6 : ((K : Int) + 1).toNat = K + 1 := by omega
        have j7 : ((K : Int)).toNat = K := by omega
        have hk6 : k ≤ 1000000 := by omega
        clear hc hpd hlen2 hK
        go_wp2_with (first | (at_builtin; refine apl rfl _ _ _ rfl W.heap.size et_nat _ k _ HO.out rfl 1 _ _ rfl rfl rfl rfl (by unfold maxLen; omega) (by omega) HB.out.size ?_; intro a6 c6 w6 h6; have H6 := Lib.hid h6; clear h6))
        go_roundw
        case rel => exact ⟨k + 1, a6, c6, cur ++ [x0 + 65536 * x1], rfl, congrArg (Value.int .i64) (by have := HKK.out; omega), by have := HKK.out; omega, by rw [HP.out, HKK.out, HPD.out, List.append_assoc, show 2 * (k + 1) = K + 2 from by have := HKK.out; omega]; rfl, by rw [List.length_append, HCL.out]; rfl, by have := H6.out.own; rw [ofNv_app]; exact this, HB.out.trans H6.out.below⟩
        case measure => have := HKK.out; simp [intOf]; omega
      · skip
        rw [if_neg (show ¬ K + 1 < l.length by omega), Nat.mul_zero, Nat.add_zero] at hpd
        have j4 : ¬ (K : Int) + 1 < (n : Int) := by omega
        have HPD := Lib.hid hpd
        have j0 : (0 : Int) ≤ (K : Int) := by omega
        have j1 : (K : Int) < (n : Int) := by omega
        have j2 : IntKind.i64.wrap ((K : Int) + 1) = (K : Int) + 1 := IntWalk.i64_in _ (by omega)
        have j3 : IntKind.i64.wrap ((K : Int) + 2) = ((K + 2 : Nat) : Int) := by rw [IntWalk.i64_in _ (by omega)]; omega
        have j5 : (0 : Int) ≤ (K : Int) + 1 := by omega
        have j6 : ((K : Int) + 1).toNat = K + 1 := by omega
        have j7 : ((K : Int)).toNat = K := by omega
        have hk6 : k ≤ 1000000 := by omega
        clear hc hpd hlen2 hK
        go_wp2_with (first | (at_builtin; refine apl rfl _ _ _ rfl W.heap.size et_nat _ k _ HO.out rfl 1 _ _ rfl rfl rfl rfl (by unfold maxLen; omega) (by omega) HB.out.size ?_; intro a6 c6 w6 h6; have H6 := Lib.hid h6; clear h6))
        go_roundw
        case rel => exact ⟨k + 1, a6, c6, cur ++ [x0], rfl, congrArg (Value.int .i64) (by have := HKK.out; omega), by have := HKK.out; omega, by rw [HP.out, HKK.out, HPD.out, List.append_assoc, show 2 * (k + 1) = K + 2 from by have := HKK.out; omega]; rfl, by rw [List.length_append, HCL.out]; rfl, by have := H6.out.own; rw [ofNv_app]; exact this, HB.out.trans H6.out.below⟩
        case measure => have := HKK.out; simp [intOf]; omega
    · have hkI : ¬ ((2 * k : Nat) : Int) < (n : Int) := by omega
      have hdn : l.drop (2 * k) = [] := List.drop_eq_nil_of_le (by have := HLN.out; omega)
      have hpe : pairs l = cur := by rw [HP.out, hdn]; show cur ++ [] = cur; rw [List.append_nil]
      have HPE := Lib.hid hpe
      clear hdn hpe
      generalize ((2 * k : Nat) : Int) = K2 at *
      go_wp2
      go_ret
      exact ⟨_, _, _, rfl, by rw [← HPL.out, HPE.out]; exact HO.out, by have := HN0.out; omega, HB.out⟩
set_option maxHeartbeats 8000000 in
theorem from16 (x : Nat) (W : World) (hx : x < 18446744073709551616) :
    Calls Tryd.prog 87 #[.int .u64 (x : Nat)] W fun e w' => ∃ a' n' c', e = .returned (.slice a' n' c') ∧ w'.ownsRow W.heap.size 73 1 (.slice a' n' c') n' ((ofN (limbs x)).map (Value.int .u32)) ∧ Below W.heap.size W w' := by
  go_enter Tryd.func87, Tryd.ntmps87
  go_wp2_with fail
  go_loopw [0, 3] (fun xv lv wr => ∃ (xk k : Nat) (aa : Option Addr) (cc : Nat) (cur : List Nat), xv = .int .u64 (xk : Nat) ∧ lv = .slice aa k cc ∧ ((k = 0 ∧ xk < 18446744073709551616) ∨ (k = 1 ∧ xk < 281474976710656) ∨ (k = 2 ∧ xk < 4294967296) ∨ (k = 3 ∧ xk < 65536) ∨ (k = 4 ∧ xk = 0)) ∧ hlv x = cur ++ hlv xk ∧ cur.length = k ∧ wr.ownsRow W.heap.size 73 1 (.slice aa k cc) k ((ofN cur).map (Value.int .u32)) ∧ Below W.heap.size W wr) (fun xv _ _ => (intOf xv).toNat)
  case atStart => exact ⟨x, 0, none, 0, [], rfl, rfl, .inl ⟨rfl, hx⟩, rfl, rfl, World.ownsRow_nil _ _ _ _, bnil W⟩
  case round =>
    obtain ⟨xk, k, aa, cc, cur, rfl, rfl, hk, hp, hcl, ho, hb⟩ := hrel
    have HP := Lib.hid hp
    have HCL := Lib.hid hcl
    have HO := Lib.hid ho
    have HB := Lib.hid hb
    have HK := Lib.hid hk
    clear hp hcl ho hb
    have hk4 : k ≤ 4 := by omega
    clear hk
    by_cases hz : 0 < xk
    · have hxm : xk < 18446744073709551616 := by have := HK.out; omega
      have hzI : (0 : Int) < (xk : Int) := by omega
      obtain ⟨q, hq⟩ : ∃ q, xk / 65536 = q := ⟨_, rfl⟩
      obtain ⟨m, hm⟩ : ∃ m, xk % 65536 = m := ⟨_, rfl⟩
      have hm6 : m < 65536 := by rw [← hm]; exact Nat.mod_lt _ (by decide)
      have HQ := Lib.hid (And.intro hq hm)
      have e1 : (xk : Int) / 65536 = (q : Int) := by omega
      have e2 : (xk : Int) % 65536 = (m : Int) := by omega
      have e3 : (xk : Int).tdiv 65536 = (q : Int) := by rw [Int.tdiv_eq_ediv_of_nonneg (by omega)]; exact e1
      have e4 : (xk : Int).tmod 65536 = (m : Int) := by rw [Int.tmod_eq_emod_of_nonneg (by omega)]; exact e2
      have e5 : IntKind.u32.wrap (m : Int) = (m : Int) := wr32 _ (by omega)
      have e6 : IntKind.u64.wrap (m : Int) = (m : Int) := by show ((m : Int) % 18446744073709551616) = _; omega
      have e7 : IntKind.u64.wrap (q : Int) = (q : Int) := by show ((q : Int) % 18446744073709551616) = _; omega
      clear hq hm
      go_wp2_with (first | (at_builtin; refine apl rfl _ _ _ rfl W.heap.size et_u32 _ k _ HO.out rfl 1 _ _ rfl rfl rfl rfl (by unfold maxLen; omega) (by omega) HB.out.size ?_; intro a6 c6 w6 h6; have H6 := Lib.hid h6; clear h6))
      go_roundw
      case rel => exact ⟨q, k + 1, a6, c6, cur ++ [m], rfl, rfl, by have := HK.out; have := HQ.out; omega, by rw [HP.out, hlv_pos (by omega), HQ.out.1, HQ.out.2, List.append_assoc]; rfl, by rw [List.length_append, HCL.out]; rfl, by have := H6.out.own; rw [ofNv_app]; exact this, HB.out.trans H6.out.below⟩
      case measure => have := HQ.out; simp [intOf]; omega
    · obtain rfl : xk = 0 := by omega
      have hpe : hlv x = cur := by rw [HP.out]; show cur ++ [] = cur; rw [List.append_nil]
      have hrk : RK .u32 wr aa k (ofN cur) := ⟨by rw [← HCL.out]; simp [ofN], (owns_rd HO.out).2⟩
      have hcm : k ≤ cc ∧ cc ≤ maxLen := by
        rcases owns_slice HO.out with ⟨_, _, e, h1, h2⟩
        cases e
        exact ⟨h1, h2⟩
      have hv : v16 cur = x := by rw [← hpe, v16_hlv]
      have HV := Lib.hid hv
      have HW := Lib.hid (whole16 aa k cc cur wr hrk (by omega) hcm.1 hcm.2 (by rw [← hpe]; exact hlv_lt x))
      clear hpe hrk hcm hv
      go_wp2_with fail
      refine HW.out.mono ?_; rintro e w9 ⟨a9, n9, c9, rfl, ho9, _, hb9⟩
      rw [HV.out] at ho9
      have HO9 := Lib.hid ho9
      have HB9 := Lib.hid hb9
      clear ho9 hb9
      go_wp2
      go_ret
      exact ⟨_, _, _, rfl, owns_base HO9.out HB.out.size, HB.out.trans (HB9.out.mono HB.out.size)⟩
set_option maxHeartbeats 4000000 in
theorem norm16 (a : Option Addr) (n c : Nat) (l : List Nat) (W : World) (h : NR W a n l) (hm : n ≤ 400000) :
    Calls Tryd.prog 92 #[.slice a n c] W fun e w' => ∃ a' n' c', e = .returned (.slice a' n' c') ∧ w'.ownsRow W.heap.size 73 1 (.slice a' n' c') n' ((ofN (limbs (val l))).map (Value.int .u32)) ∧ Below W.heap.size W w' := by
  have HH := Lib.hid (half16 a n c l W h (by omega))
  clear h
  go_enter Tryd.func92, Tryd.ntmps92
  go_wp2_with fail
  refine HH.out.mono ?_; rintro e w1 ⟨a1, n1, c1, rfl, ho1, hn1, hb1⟩
  have hcm : n1 ≤ c1 ∧ c1 ≤ maxLen := by
    rcases owns_slice ho1 with ⟨_, _, e, h1, h2⟩
    cases e
    exact ⟨h1, h2⟩
  have HW := Lib.hid (whole16 a1 n1 c1 (hlv (val l)) w1 (RK.of_own ho1) (by omega) hcm.1 hcm.2 (hlv_lt _))
  have HB1 := Lib.hid hb1
  clear ho1 hcm hb1
  go_wp2_with fail
  refine HW.out.mono ?_; rintro e w2 ⟨a2, n2, c2, rfl, ho2, _, hb2⟩
  rw [v16_hlv] at ho2
  have HO2 := Lib.hid ho2
  have HB2 := Lib.hid hb2
  clear ho2 hb2
  go_wp2
  go_ret
  exact ⟨_, _, _, rfl, owns_base HO2.out HB1.out.size, HB1.out.trans (HB2.out.mono HB1.out.size)⟩
end Go.Proofs.YtnmegpplfbkpcaaDoor
