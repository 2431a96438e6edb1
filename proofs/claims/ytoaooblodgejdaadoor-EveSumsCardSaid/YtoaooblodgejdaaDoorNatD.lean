/- The contract of nat.Pow. -/
import Derived.Test.YtoaooblodgejdaaDoorNatB
import Derived.Test.YtoaooblodgejdaaDoorBase
namespace Go.Proofs.YtoaooblodgejdaaDoor
open Go.RowKit
set_option linter.unusedVariables false
set_option maxRecDepth 100000

theorem own_base {w : World} {base b' sz n : Nat} {e : TypeId} {v : Value} {cs : List Value} (h : w.ownsRow base e sz v n cs) (hb : b' ≤ base) : w.ownsRow b' e sz v n cs :=
  ⟨h.1, h.2.imp id fun ⟨g, cap, cur, e, hbg, rest⟩ => ⟨g, cap, cur, e, Nat.le_trans hb hbg, rest⟩⟩
theorem own_up {w w' : World} {base sz n : Nat} {e : TypeId} {v : Value} {cs : List Value} (h : w.ownsRow base e sz v n cs) (hb : Below w.heap.size w w') : w'.ownsRow base e sz v n cs := by
  refine ⟨h.1, ?_⟩
  rcases h.2 with hn | ⟨g', cap, cur, rfl, hbg, hg, rest⟩
  · exact .inl hn
  · refine .inr ⟨g', cap, cur, rfl, hbg, ?_, rest⟩
    have hlt : g' < w.heap.size := by
      rcases Nat.lt_or_ge g' w.heap.size with h1 | h1
      · exact h1
      · simp [h1] at hg
    rw [← hg]
    exact hb.block g' hlt
theorem limbs_len_le {x m : Nat} (h : x < B32 ^ m) : (limbs x).length ≤ m := by
  rcases Nat.lt_or_ge m (limbs x).length with h1 | h1
  · exfalso
    have hu : U32 (List.replicate m 4294967295) := fun y hy => by rw [List.eq_of_mem_replicate hy]; decide
    have e1 : val (List.replicate m 4294967295) + 1 = B32 ^ m := by
      clear h h1 hu
      induction m with
      | zero => rfl
      | succ m ih =>
        simp only [List.replicate_succ, val, Nat.pow_succ]
        rw [← ih, Nat.add_mul, Nat.mul_comm]
        show 4294967295 + _ + 1 = _ + 1 * 4294967296
        omega
    have e2 : limbs (val (List.replicate m 4294967295)) = List.replicate m 4294967295 := by
      rw [limbs_val hu]
      cases m with
      | zero => rfl
      | succ m =>
        rw [show m + 1 = m + 1 by rfl, List.replicate_succ', trim_snoc (by decide)]
    have := limbs_len_lt (x := val (List.replicate m 4294967295)) (y := x) (by rw [e2]; simpa using h1)
    omega
  · exact h1
theorem pow_len {k : Nat} (hk : k < B32) (e : Nat) : (limbs (k ^ e)).length ≤ e + 1 := by
  refine limbs_len_le ?_
  calc k ^ e ≤ B32 ^ e := Nat.pow_le_pow_left (Nat.le_of_lt hk) e
    _ < B32 ^ (e + 1) := Nat.pow_lt_pow_right (by decide) (by omega)

structure PowAt (W wr : World) (k n m e r : Nat) (a1 : Option Addr) (n1 c1 : Nat) (a2 : Option Addr) (n2 : Nat) (l2 : List Nat) : Prop where
  sum : r + m * e = n
  one : 1 ≤ e
  bv : val l2 = k ^ e
  bl : n2 ≤ e + 1
  nr : NR wr a2 n2 l2
  own : wr.ownsRow W.heap.size 47 1 (.slice a1 n1 c1) n1 ((ofN (limbs (k ^ r))).map (Value.int .u32))
  nv : NV wr a1 n1 c1 (k ^ r)
  bel : Below W.heap.size W wr
/-- one round: the product, if taken, then the square -/
theorem PowAt.odd {W wr w5 : World} {k n m e r : Nat} {a1 a2 a3 : Option Addr} {n1 c1 n2 n3 c3 : Nat} {l2 : List Nat} (h : PowAt W wr k n m e r a1 n1 c1 a2 n2 l2) (hm : m % 2 = 1)
    (ho : w5.ownsRow wr.heap.size 47 1 (.slice a3 n3 c3) n3 ((ofN (limbs (val (limbs (k ^ r)) * val l2))).map (Value.int .u32))) (hv : NV w5 a3 n3 c3 (val (limbs (k ^ r)) * val l2)) (hb : Below wr.heap.size wr w5) :
    PowAt W w5 k n (m - 1) e (r + e) a3 n3 c3 a2 n2 l2 := by
  rw [val_limbs, h.bv, ← Nat.pow_add] at ho hv
  refine ⟨?_, h.one, h.bv, h.bl, h.nr.up hb, own_base ho h.bel.size, hv, ?_⟩
  · have := h.sum
    obtain ⟨q, rfl⟩ : ∃ q, m = q + 1 := ⟨m - 1, by omega⟩
    rw [Nat.add_mul] at this
    simp only [Nat.add_sub_cancel]
    omega
  · exact h.bel.trans (hb.mono h.bel.size)
theorem PowAt.square {W wr w5 : World} {k n m e r : Nat} {a1 a2 a3 : Option Addr} {n1 c1 n2 n3 c3 : Nat} {l2 : List Nat} (h : PowAt W wr k n m e r a1 n1 c1 a2 n2 l2) (hm : m % 2 = 0) (hk : k < B32)
    (ho : w5.ownsRow wr.heap.size 47 1 (.slice a3 n3 c3) n3 ((ofN (limbs (val l2 * val l2))).map (Value.int .u32))) (hv : NV w5 a3 n3 c3 (val l2 * val l2)) (hb : Below wr.heap.size wr w5) :
    PowAt W w5 k n (m / 2) (e + e) r a1 n1 c1 a3 n3 (limbs (k ^ (e + e))) := by
  rw [h.bv, ← Nat.pow_add] at ho hv
  refine ⟨?_, by have := h.one; omega, val_limbs _, ?_, hv.nr, own_up h.own hb, h.nv.up hb, h.bel.trans (hb.mono h.bel.size)⟩
  · have := h.sum
    obtain ⟨q, rfl⟩ : ∃ q, m = q + q := ⟨m / 2, by omega⟩
    rw [show (q + q) / 2 = q by omega, Nat.mul_add]
    rw [Nat.add_mul] at this
    exact this
  · rw [hv.len]; exact pow_len hk _

set_option maxHeartbeats 4000000 in
theorem pow_any (k n : Nat) (W : World) (hk : k < B32) (hn : n ≤ 1024) :
    Calls Tryd.prog 24 #[.int .u32 k, .int .i64 n] W fun e w' => ∃ a' n' c', e = .returned (.tuple #[.slice a' n' c', .nilIface]) ∧ w'.ownsRow W.heap.size 47 1 (.slice a' n' c') n' ((ofN (limbs (k ^ n))).map (Value.int .u32)) ∧ NV w' a' n' c' (k ^ n) ∧ Below W.heap.size W w' := by
  have HK : Hid (k < B32) := hk
  have hk' : k < 4294967296 := hk
  have e1 : limbs 1 = [1] := rfl
  have hst : PowAt W ((W.alloc (.cells #[.int .u32 1] 47)).alloc (.cells #[.int .u32 (k : Int)] 47)) k n n 1 0 (some ⟨W.heap.size, 0, none⟩) 1 1 (some ⟨W.heap.size + 1, 0, none⟩) 1 [k] := by
    have hb1 : Below W.heap.size W (W.alloc (.cells #[.int .u32 1] 47)) := balloc (bnil W) _
    have hb2 : Below (W.alloc (.cells #[.int .u32 1] 47)).heap.size (W.alloc (.cells #[.int .u32 1] 47)) ((W.alloc (.cells #[.int .u32 1] 47)).alloc (.cells #[.int .u32 (k : Int)] 47)) := balloc (bnil _) _
    have ho : (W.alloc (.cells #[.int .u32 1] 47)).ownsRow W.heap.size 47 1 (.slice (some ⟨W.heap.size, 0, none⟩) 1 1) 1 ((ofN [1]).map (Value.int .u32)) := own_lit (n := 1) rfl (Nat.le_refl _) (by decide) rfl
    have hr : NR (W.alloc (.cells #[.int .u32 1] 47)) (some ⟨W.heap.size, 0, none⟩) 1 (limbs 1) := ⟨rk_new rfl rfl rfl, limbs_u32 1⟩
    refine ⟨by omega, Nat.le_refl _, by simp [val], by omega, ⟨rk_new (by simp) rfl rfl, ?_⟩, ?_, ?_, hb1.trans (hb2.mono hb1.size)⟩
    · intro x hx; rw [List.mem_singleton.1 hx]; exact hk
    · exact own_up ho hb2
    · exact ⟨hr.up hb2, Nat.le_refl _, by decide, fun e => by cases e⟩
  have HS := Lib.hid hst; clear hst e1
  clear hk
  obtain ⟨X, hX⟩ : ∃ X, k ^ n = X := ⟨_, rfl⟩
  rw [hX]
  have HX := Lib.hid hX; clear hX
  go_enter Tryd.func24, Tryd.ntmps24
  go_wp2_with fail
  go_loopw [1, 6, 7] (fun nx ox bx wr => ∃ (m e r : Nat) (a1 : Option Addr) (n1 c1 : Nat) (a2 : Option Addr) (n2 c2 : Nat) (l2 : List Nat), m ≤ n ∧ nx = .int .i64 m ∧ ox = .slice a1 n1 c1 ∧ bx = .slice a2 n2 c2 ∧ PowAt W wr k n m e r a1 n1 c1 a2 n2 l2) (fun nx _ _ _ => (intOf nx).toNat)
  case atStart => exact ⟨n, 1, 0, _, _, _, _, _, _, _, Nat.le_refl _, rfl, rfl, rfl, HS.out⟩
  case round =>
    clear HS
    obtain ⟨m, e, r, a1, n1, c1, a2, n2, c2, l2, hmn, rfl, rfl, rfl, hp⟩ := hrel
    by_cases hm0 : m = 0
    · subst hm0
      have hr : k ^ r = X := by have := hp.sum; rw [Nat.zero_mul, Nat.add_zero] at this; rw [this]; exact HX.out
      have ho := hp.own
      have hv := hp.nv
      rw [hr] at ho hv
      have HO := Lib.hid ho
      have HV := Lib.hid hv
      have HB := Lib.hid hp.bel
      clear hp ho hv
      go_wp2
      go_ret2
      exact ⟨_, _, _, rfl, HO.out, HV.out, HB.out⟩
    · have hm1 : 0 < m := by omega
      have hme : e ≤ 1024 := by
        have := hp.sum
        have : 1 * e ≤ m * e := Nat.mul_le_mul_right _ hm1
        omega
      have hrr : r ≤ 1024 := by have := hp.sum; omega
      have hl1 : n1 ≤ 1025 := by rw [hp.nv.len]; exact Nat.le_trans (pow_len HK.out r) (by omega)
      have hl2 : n2 ≤ 1025 := by have := hp.bl; omega
      have HP := Lib.hid hp; clear hp
      have hmt : (m : Int).tdiv 2 = ((m / 2 : Nat) : Int) := rfl
      have hmd : IntKind.i64.wrap ((m : Int).tdiv 2) = ((m / 2 : Nat) : Int) := by rw [hmt]; exact IntWalk.i64_in _ (by omega)
      have mpos : (0 : Int) < (m : Int) := by omega
      by_cases hodd : m % 2 = 1
      · have hmo : (m : Int) % 2 = 1 := by omega
        go_wp2_with fail
        refine (mul_any a1 a2 n1 n2 c1 c2 (limbs (k ^ r)) l2 _ HP.out.nv.nr HP.out.nr (by omega)).mono ?_; rintro e5 w5 ⟨a3, n3, c3, rfl, ho3, hv3, hb3⟩
        have HP5 := Lib.hid (HP.out.odd hodd ho3 hv3 hb3)
        clear HP ho3 hv3 hb3
        go_wp2_with fail
        refine (mul_any a2 a2 n2 n2 c2 c2 l2 l2 _ HP5.out.nr HP5.out.nr (by omega)).mono ?_; rintro e6 w6 ⟨a4, n4, c4, rfl, ho4, hv4, hb4⟩
        have HP6 := Lib.hid (HP5.out.square (by omega) HK.out ho4 hv4 hb4)
        rw [show (m - 1) / 2 = m / 2 by omega] at HP6
        clear HP5 ho4 hv4 hb4
        go_wp2
        go_roundw
        case rel => exact ⟨m / 2, _, _, _, _, _, _, _, _, _, by omega, by go_num, rfl, rfl, HP6.out⟩
        case measure => simp [intOf]; omega
      · have hmo : (m : Int) % 2 = 0 := by omega
        go_wp2_with fail
        refine (mul_any a2 a2 n2 n2 c2 c2 l2 l2 _ HP.out.nr HP.out.nr (by omega)).mono ?_; rintro e6 w6 ⟨a4, n4, c4, rfl, ho4, hv4, hb4⟩
        have HP6 := Lib.hid (HP.out.square (by omega) HK.out ho4 hv4 hb4)
        clear HP ho4 hv4 hb4
        go_wp2
        go_roundw
        case rel => exact ⟨m / 2, _, _, _, _, _, _, _, _, _, by omega, by go_num, rfl, rfl, HP6.out⟩
        case measure => simp [intOf]; omega

theorem pow_err (k : Nat) (n : Int) (W : World) (R : Nat → Addr) (hG : Glob W R) (c : Int) (h : (n < 0 ∧ c = 3) ∨ (1024 < n ∧ c = 4)) :
    Calls Tryd.prog 24 #[.int .u32 k, .int .i64 n] W fun e w' => ∃ g, e = .returned (.tuple #[.slice none 0 0, .iface 124 (.pointer (some ⟨g, 0, none⟩))]) ∧ IsErr W.heap.size R w' (.iface 124 (.pointer (some ⟨g, 0, none⟩))) opNat 0 c ∧ Below W.heap.size W w' := by
  have HG := Lib.hid hG; clear hG
  rcases h with ⟨h1, rfl⟩ | ⟨h1, rfl⟩
  · go_enter Tryd.func24, Tryd.ntmps24
    go_wp2_with fail
    refine (new_err _ _ _ _ R HG.out rfl).mono ?_; rintro e w' ⟨rfl, rfl⟩
    go_wp2
    go_ret2
    exact ⟨_, rfl, isErr_new (Nat.le_refl _), balloc (bnil W) _⟩
  · have h0 : ¬ (n < 0) := by omega
    go_enter Tryd.func24, Tryd.ntmps24
    go_wp2_with fail
    refine (new_err _ _ _ _ R HG.out rfl).mono ?_; rintro e w' ⟨rfl, rfl⟩
    go_wp2
    go_ret2
    exact ⟨_, rfl, isErr_new (Nat.le_refl _), balloc (bnil W) _⟩
end Go.Proofs.YtoaooblodgejdaaDoor
